/- slices. -/
import Derived.Test.YteiopcmalidhaaaGreatAl
import Derived.Test.YteiopcmalidhaaaGreatProg
import Derived.RangeFuncGives
import Derived.RangeFuncSeq
import Derived.Sort.MapsRangeIn
import Derived.Shelf.AbstractIn
import Derived.OwnWalkIn
import Derived.TacticsInMore
import Derived.RegionIn
import Derived.LoopNIn
import Derived.LoopIn
import Derived.WalkKit
import Derived.Maps.RangeWalk
import Derived.Shelf.SlIter.Collect
import Derived.Shelf.SlSortCmp.InsertionK
import Derived.StillTailTactics
import Derived.Shelf.SlSortCmp.WholeK
import Derived.Shelf.SlSortCmp.NoneTotal
set_option linter.all false
namespace Go.Proofs.YteiopcmalidhaaaGreat
namespace Abs
open Go Go.Proofs Go.RowKit Go.Maps Tryz
open Go.ChangeMaps (setBlock)
attribute [local go_sem] Oper.semAt_some
def y9 (x:Int×Int):Value :=.agg #[.int .i64 x.1,.int .i64 x.2]
def ahr:prog.underlying 308=some (.map 310 86):=Φ
def entA (f:Array MapEntry)(i:Nat):MapEntry:=f.getD i default
variable{es:Array MapEntry}{i clock:Nat}{f:List Nat}
def entA_at (h:i<es.size):es.toList[i]? = some (entA es i):=by unfold entA;rw[f_,n_,W_ h];rfl
def Oj (h:i<es.size):entA es i∈es.toList:=Y_ (entA_at h)
def YJ {e:MapEntry}(h:e∈es.toList):∃i,i<es.size∧entA es i=e:=by
 obtain⟨i,g⟩:=N_ h;have f:i<es.size:=by simpa using(N'.1 g).1
 refine⟨i,f, ?_⟩;rw[entA_at f]at g;exact π g
structure RawIt (W:World)(b r:Nat)(es:Array MapEntry)(clock:Nat)(f:List Nat):Prop where
 map:W.heap[b]? = some (.map es clock)
 it:W.heap[r]? = some (.mapIter (some b) clock (f.map λi=>(entA es i).born).toArray clock)
 nd:f.Nodup
 lt:∀i∈f,i<es.size
def RawIt.ne {W:World}{b r:Nat}(h:RawIt W b r es clock f):r≠b:=λe=>by have g:=h.it;rw[e,h.map]at g;cases g
def RawIt.kept {W j:World}{b r:Nat}(h:RawIt W b r es clock f)(g:KeepsWalks W j):RawIt j b r es clock f:=by exact⟨g.same _ _ h.map rfl,g.same _ _ h.it rfl,h.nd,h.lt⟩
section
variable {F:Fence}{n:Nat}{P:Program}{w:World}{ops:Array Oper}{au:List Oper}{o:Oper}{a:Act}{Q:Exit→Act→World→Prop}
def wj (J:o.guard=none)(m:Operand)(t:TypeId)(f:o.op=Op.range t m)(k e:TypeId)(r:P.underlying t=some (.map k e))(b:Nat)(es:Array MapEntry)(clock:Nat)(C:a.eval m = .map (some b))(R:w.heap[b]? = some (.map es clock))
  (T:∀p,p=w.alloc (.mapIter (some b) clock #[] clock)→wpListIn F n P ops Q au (a.put o.dst (.pointer (some ⟨w.heap.size,0,none⟩))) p):wpListIn F n P ops Q (o::au) a w:=by
 refine wpListIn_plain J λU l=>?_;have g:=run_range_map w t k e b es clock r R;unfold Oper.wpIn;refine⟨?_, ?_⟩
 ·simp[Oper.about,f]
 ·rw[Oper.semAt_plain F _ _ (by rw[f];intro c j;cases j)];simp[execOp,f,C,g,Result.andThen];exact l _ _ (T _ rfl)
def xn (hg:o.guard=none)(it:Operand)(hop:o.op=Op.next it false)(b r:Nat)(es:Array MapEntry)(clock:Nat)(f:List Nat)(hborn:∀x∈es.toList,x.born<clock)(hnd:(es.toList.map (·.born)).Nodup)
  (hit:a.eval it = .pointer (some ⟨r,0,none⟩)) (h:RawIt w b r es clock f)
  (hDone:(∀i,i<es.size→i∈f)→wpListIn F n P ops Q au (a.put o.dst (.tuple #[.bool false])) w)
  (hMore:∀i w',i<es.size→i ∉ f→RawIt w' b r es clock (f++[i])→w.grownBy w' (some r)→w'.heap.size=w.heap.size→(Instr.entry (.pointer (some ⟨r,0,none⟩))).run P w' = .ok (.tuple #[(entA es i).key,(entA es i).val]) w' →
   wpListIn F n P ops Q au (a.put o.dst (.tuple #[.bool true,(entA es i).key,(entA es i).val])) w'):wpListIn F n P ops Q (o::au) a w:=by
 refine wpListIn_plain hg λK' hK'=>?_;unfold Oper.wpIn;refine⟨by simp[Oper.about,hop], ?_⟩;rw[Oper.semAt_plain F _ _ (by rw[hop];intro c hc';cases hc')];have hinj:∀i j,i<es.size→j<es.size→(entA es i).born=(entA es j).born→i=j:=λi j C U he=>by
  have h1:(es.toList.map (·.born))[i]? = some (entA es i).born:=by rw[A_,entA_at C];rfl
  have h2:(es.toList.map (·.born))[j]? = some (entA es i).born:=by rw[A_,entA_at U,he];rfl
  have hi':i<(es.toList.map (·.born)).length:=by simpa using C
  have hj':j<(es.toList.map (·.born)).length:=by simpa using U
  rw[δ hi']at h1;rw[δ hj']at h2;have he2:=(π h1).trans (π h2).symm;obtain hlt|he'|hlt:=d? i j
  ·exact(f?.1 hnd i j hi' hj' hlt he2).elim
  ·exact he'
  ·exact(f?.1 hnd j i hj' hi' hlt he2.symm).elim
 have J:∀i,i<es.size→((f.map λi=>(entA es i).born).toArray.contains (entA es i).born=true↔i∈f):=λi C=>by rw[akl,aiO,s_];exact⟨λ⟨j,U,he⟩=>hinj j i (h.lt j U) C he ▸ U,λhm=>⟨i,hm,rfl⟩⟩
 rcases run_next_at (P:=P) w o.type r b clock clock (f.map λi=>(entA es i).born).toArray es clock h.it h.map hborn (ζ _)with⟨h0,g⟩|⟨e,he,w1,hw1,g⟩
 ·simp[execOp,hop,hit,g,Result.andThen];refine hK' _ _ (hDone λi C=>?_);apply ai6;intro hni;have l:entA es i∈(leftOf es (f.map λi=>(entA es i).born).toArray).toList:=by
   unfold leftOf;rw[q_,aiy];refine⟨q_.1 (Oj C), ?_⟩;cases hc:(f.map λi=>(entA es i).born).toArray.contains (entA es i).born with
   |false=>rfl
   |true=>exact(hni ((J i C).1 hc)).elim
  have:=aiK l;rw[ω]at this;omega
 ·unfold leftOf at he;have l:=aiy.1 (q_.1 he);obtain⟨i,C,rfl⟩:=YJ (q_.2 l.1);have hni:i ∉ f:=λhm=>by
   have:=(J i C).2 hm;rw[this]at l;simp at l
  have R:w1.heap=w.heap:=by obtain rfl|rfl:=hw1 <;> rfl
  have hit1:w1.heap[r]? = some (.mapIter (some b) clock (f.map λi=>(entA es i).born).toArray clock):=by rw[R];exact h.it
  have T:(f.map λi=>(entA es i).born).toArray.push (entA es i).born=((f++[i]).map λi=>(entA es i).born).toArray:=by simp
  rw[T]at g;have hg1:w.grownBy (setBlock w1 r (.mapIter (some b) clock ((f++[i]).map λi=>(entA es i).born).toArray clock)) (some r):=by
   refine⟨?_, ?_, ?_, ?_,λk _ hk=>?_⟩
   ·obtain rfl|rfl:=hw1 <;> rfl
   ·obtain rfl|rfl:=hw1 <;> rfl
   ·obtain rfl|rfl:=hw1 <;> rfl
   ·simp[setBlock,R]
   ·rw[show(setBlock w1 r _).heap[k]? = _ from(aix hit1).2 k λe=>hk (by rw[e]),R]
  have hsz2:(setBlock w1 r (.mapIter (some b) clock ((f++[i]).map λi=>(entA es i).born).toArray clock)).heap.size=w.heap.size:=by simp[setBlock,R]
  have hit2:(setBlock w1 r (.mapIter (some b) clock ((f++[i]).map λi=>(entA es i).born).toArray clock)).heap[r]? = some (.mapIter (some b) clock ((f++[i]).map λi=>(entA es i).born).toArray clock):=(aix hit1).1;have p:(setBlock w1 r (.mapIter (some b) clock ((f++[i]).map λi=>(entA es i).born).toArray clock)).heap[b]? = some (.map es clock):=by rw[show(setBlock w1 r _).heap[b]? = _ from(aix hit1).2 b λe=>h.ne e.symm,R];exact h.map
  generalize setBlock w1 r (.mapIter (some b) clock ((f++[i]).map λi=>(entA es i).born).toArray clock)=w2 at g hg1 hit2 p hsz2;simp[execOp,hop,hit,g,Result.andThen];refine hK' _ _ (hMore i w2 C hni ⟨p,hit2, ?_, ?_⟩ hg1 hsz2 ?_)
  ·rw[ajL];exact⟨h.nd,Ψ,λx hx y hy e=>hni (by rw[E']at hy;rw[←hy,←e];exact hx)⟩
  ·intro j U;obtain U|U:=O'.1 U
   ·exact h.lt j U
   ·rw[E'.1 U];exact C
  ·exact run_entry_at w2 r b clock (f.map λi=>(entA es i).born).toArray es clock (entA es i) (by rw[hit2,←T]) p (Oj C) hnd
end
attribute [local go_sem] Oper.semAt_some
def Jg (W:World)(r:Nat):Nat:=match W.heap[r]? with
 |some (.mapIter _ _ seen _)=>seen.size
 |_=>0
variable{f:List Nat}
def RawIt.len {W:World}{b r:Nat}{es:Array MapEntry}{clock:Nat}(h:RawIt W b r es clock f):Jg W r=f.length:=by unfold Jg;rw[h.it];simp
def U1 {n:Nat}(j:f.Nodup)(r:∀i∈f,i<n):f.length≤n:=by
 have:∀{a:List Nat} {b:List Nat},a.Nodup→(∀x∈a,x∈b)→a.length≤b.length:=by
  intro a;induction a with
  |nil=>intro b _ _;exact c_ _
  |cons x a p =>intro b j h;have ⟨J,C⟩:=aiB.1 j;have g:=h x (S' ..);have:=p (b:=b.erase x) C λy l=>(ajr λe:y=x=>J (by rw[←e];exact l)).2 (h y (J' _ l));rw[ajb g]at this;have:=aiK g;simp;omega
 have:=this j λx g=>F_.2 (r x g);rwa[List.length_range]at this
def RawIt.alloc {W:World}{b r:Nat}{es:Array MapEntry}{clock:Nat}{f:List Nat}(h:RawIt W b r es clock f)(o:Obj):RawIt (W.alloc o) b r es clock f:=h.kept (KeepsWalks.alloc _ _)
set_option maxRecDepth 100000 in
set_option maxHeartbeats 1000000 in
def YT (F:Fence)(n:Nat)(h10:F.fn 330)(hro:F.round=none)(hn:1≤n)(l Bm b:Nat)(es:Array MapEntry)(clock:Nat)(P:∀x∈es.toList,x.born<clock)(hnd:(es.toList.map (·.born)).Nodup)(T:∀i,i<es.size→∃x,(entA es i).key=y9 x)(J:List Nat→World→Prop)
  (hY:∀f i W,J f W→f.Nodup→i<es.size→i ∉ f→f.length<es.size→YieldAt F (n-1) prog l #[(entA es i).key] W λe W'=>e = .returned (.bool true)∧J (f++[i]) W'∧KeepsWalks W W')
  (W:World) (hJ:AbidesFrom W.heap.size J) (hm:W.cell? ⟨Bm,0,none⟩=some (.map (some b))) (hb:W.heap[b]? = some (.map es clock)) (h0:J [] W) :
  CallsIn F n prog 330 #[.func (.yield l) #[] #[],.pointer (some ⟨Bm,0,none⟩)] W λe W'=>(∃v,e = .returned v)∧∃f:List Nat,f.Nodup∧(∀i,i∈f↔i<es.size)∧J f W':=by
 refine callsIn_of_wp func330 rfl h10 ?_ hro;simp[ntmps330,H?,r_,ajk,Nat.reduceAdd,Nat.reduceSub,aju,ajt,aja,ajy,t_,ajZ]
 gi_wp2_with (first
  |(gi_at_range;refine wj rfl _ 308 rfl 310 86 ahr b es clock rfl hb ?_;intro w0 C)
  |gi_in)
 have hg0:W.grownBy w0 none:=by rw[C];exact i_ _ _ _
 have hr0:RawIt w0 b W.heap.size es clock []:=by rw[C];exact⟨(Below.heap_alloc _ _ b (η.1 hb).1).trans hb,World.alloc_heap_new _ _,R?,λ_ h=>by cases h⟩
 clear C
 go_frame
 gi_loopw [3] (λ_ wr=>∃f:List Nat,RawIt wr b W.heap.size es clock f∧J f wr) (λ_ wr=>es.size-Jg wr W.heap.size)
 case atStart=>exact⟨[],hr0,hJ [] W w0 none h0 hg0 (λr e=>by cases e)⟩
 case round=>
  obtain⟨f,j,hJs⟩:=hrel
  gi_wp2_with (first
   |(gi_at_next;refine xn rfl _ rfl b W.heap.size es clock f P hnd rfl j ?_ ?_)
   |gi_in)
  ·
   intro hall
   gi_wp2
   go_end0
   exact⟨⟨_,rfl⟩,f,j.nd,λi=>⟨j.lt i,hall i⟩,hJs⟩
  ·intro i w2 hi hni g hg2 hs2 U;obtain⟨x,hx⟩:=T i hi;have hJ2:J f w2:=hJ f wr w2 (some W.heap.size) hJs hg2 (λr e=>by cases e;exact⟨ζ _,_,j.it,rfl⟩);have hJ3:J f (w2.alloc (.cells #[.int .i64 x.1,.int .i64 x.2] 310)):=hJ f w2 _ none hJ2 (i_ _ _ _) (λr e=>by cases e);have hlen:=g.lt;have hll:f.length<es.size:=by
    have:=U1 g.nd g.lt;rw[P']at this;exact this
   obtain⟨fn,tmps,assign,body,hy,hR⟩:=hY f i _ hJ3 j.nd hi hni hll;rw[hx]at hy U⊢;have R:=g.alloc (.cells #[.int .i64 x.1,.int .i64 x.2] 310);clear hs2;unfold y9 at hy U⊢
   gi_wp2
   refine hR.mono ?_;rintro e W3 ⟨rfl,hJ4,hk3⟩
   gi_wp2
   have p:=R.kept hk3
   go_roundw
   case rel=>exact⟨_,p,hJ4⟩
   case measure=>rw[p.len,j.len,P'];simp;omega
def NG (F:Fence)(n:Nat)(h10:F.fn 330)(P:F.round=none)(hn:1≤n)(C b:Nat)(es:Array MapEntry)(clock:Nat)(j:∀x∈es.toList,x.born<clock)(R:(es.toList.map (·.born)).Nodup)(r:Nat→Int×Int)(g:∀i,i<es.size→(entA es i).key=y9 (r i))
  (w:World) (U:C<w.heap.size) (hm:w.cell? ⟨C,0,none⟩=some (.map (some b))) (hb:w.heap[b]? = some (.map es clock)) :
  SeqGives F n prog 330 #[.pointer (some ⟨C,0,none⟩)] (λi=>y9 (r i)) (λf:List Nat=>f.Nodup∧∀i,i∈f↔i<es.size) es.size w:=λl J W hW hJ hY h0=>by
 refine(YT F n h10 P hn l C b es clock j R (λi T=>⟨_,g i T⟩) J (λf i W1 h1 _ T _ h2=>by rw[g i T];exact hY f i W1 h1 h2) W hJ ((hW.cell (p:=⟨C,0,none⟩) U).trans hm) ((hW.block b (η.1 hb).1).trans hb) h0).mono ?_;rintro e W' ⟨h1,f,h2,h3,h4⟩;exact⟨h1,f,⟨h2,h3⟩,h4⟩
open Go.Shelf
attribute [local go_sem] Oper.semAt_some
def ahq:prog.underlying 313=some (.slice 310):=Φ
def ag7:(prog.info? 310).map (λi=>(i.zero,i.size,i.bytes))=some (some (.agg #[.int .i64 0,.int .i64 0]),2,16):=Φ
def celS (x:Int×Int):List Value:=[.int .i64 x.1,.int .i64 x.2]
def flS (l:List (Int×Int)):List Value:=(l.map celS).flatten
def acN (l:List (Int×Int))(x:Int×Int):flS (l++[x])=flS l++celS x:=by simp[flS]
def KD (l:List (Int×Int)):(flS l).length=l.length*2:=by
 induction l with
 |nil=>rfl
 |cons x l f=>simp[flS,celS]at f⊢;omega
def apA:Code :=.region 2 #[{ dst:=some 5,op:=Op.alloc 310,type:=0,pos:="iter.go:51",after :=#[],guard:=none },
 { dst:=none,op:=Op.store 310 (Operand.tmp 5) (Operand.tmp 7),type:=0,pos:="iter.go:51",after :=#[{ on:=0,ground:=Ground.data },{ on:=0,ground:=Ground.phase }],guard:=none }] false
def apB:Code :=.block 1 (.region 3 #[{ dst:=some 8,op:=Op.load 313 (Operand.tmp 2),type:=313,pos:="iter.go:52",after :=#[],guard:=none },
 { dst:=some 9,op:=Op.load 310 (Operand.tmp 5),type:=310,pos:="iter.go:52",after :=#[],guard:=none },
 { dst:=some 10,op:=Op.buildSlice 313 1 #[(0,Operand.tmp 9)],type:=313,pos:="iter.go:52",after :=#[{ on:=1,ground:=Ground.data }],guard:=none },
 { dst:=some 11,op:=Op.call { callee:=Callee.builtin Builtin.append,args :=#[Operand.tmp 8,Operand.tmp 10],argTypes :=#[313,313] },type:=313,pos:="iter.go:52",after :=#[{ on:=0,ground:=Ground.data },{ on:=2,ground:=Ground.data }],guard:=none },
 { dst:=none,op:=Op.store 313 (Operand.tmp 2) (Operand.tmp 11),type:=0,pos:="iter.go:52",after :=#[{ on:=3,ground:=Ground.data },{ on:=3,ground:=Ground.chain },{ on:=0,ground:=Ground.phase },{ on:=1,ground:=Ground.phase },{ on:=2,ground:=Ground.phase },{ on:=3,ground:=Ground.phase }],guard:=none }] false)
def rF (fn:FuncId)(sv:Value)(j D:Nat)(g:LoopState)(f:Option Code):Loop :=
 { state:=g,pending:=f,fn,tmps :=#[.slice none 0 0,sv,.pointer (some ⟨j,0,none⟩),undef,.slice none 0 0,undef,sv,undef,undef,undef,undef,undef,undef],params :=#[7],assign:=apA,body:=apB,defers:=D }
structure ApS (key:Nat→Int×Int)(w0:World)(fn:FuncId)(sv:Value)(Bs l D:Nat)(f:List Nat)(W:World):Prop where
 box:∃v,W.heap[Bs]? = some (.cells #[v] 313 (0,0))∧W.ownsRow w0.heap.size 310 2 v f.length (flS (f.map key))
 L:W.heap[l]? = some (.loop (rF fn sv Bs D .ready none))
 K:W.heap[D]? = some (.deferred (some []))
 below:Below w0.heap.size w0 W
def RQ (p:Nat→Int×Int)(C:World)(fn:FuncId)(P:Value)(U l D B:Nat)(T:C.heap.size≤B):AbidesFrom B (ApS p C fn P U l D):=λs W W' row h j g=>by
 have f:∀r,row=some r→∃o:Obj,W.heap[r]? = some o∧o.isWalk=true:=λr e=>(g r e).2;obtain⟨v,J,R⟩:=h.box;exact⟨⟨v,(grownBy_keeps j f J rfl).trans J,ownsRow_abides_a R j f⟩,(grownBy_keeps j f h.L rfl).trans h.L,(grownBy_keeps j f h.K rfl).trans h.K,
  h.below.grown j h.below.size (λk e=>Θ T (g k e).1)⟩
def K0 (w:World)(a b:Value)(t:TypeId):∀j u,[a,b][j]? = some u→(w.alloc (.cells #[a,b] t)).cell? ((⟨w.heap.size,0,none⟩:Addr).add j)=some u:=λj u h=>by
 have f:=World.alloc_heap_new w (.cells #[a,b] t);match j,h with
 |0,h=>cases h;show World.cell? _ ⟨w.heap.size,0,none⟩=_;unfold World.cell?;rw[f];rfl
 |1,h=>cases h;show World.cell? _ ⟨w.heap.size,1,none⟩=_;unfold World.cell?;rw[f];rfl
set_option maxRecDepth 100000 in
set_option maxHeartbeats 2000000 in
def aaO (f:Nat→Int×Int)(F:Fence)(m:Nat)(w0:World)(fn:FuncId)(hfn:F.fn fn)(sv:Value)(p l D:Nat)(hBl:p≠l)(hDl:D≠l)(hDB:D≠p)(h0B:w0.heap.size≤p)(h0l:w0.heap.size≤l)
  (N:Nat) (hN:N≤maxLen) (hNb:N*16≤140737488355328) (ss:List Nat) (x:Nat) (W:World) (h:ApS f w0 fn sv p l D ss W) (hlen:ss.length<N) :
  YieldAt F m prog l #[y9 (f x)] W λe W'=>e = .returned (.bool true)∧ApS f w0 fn sv p l D (ss++[x]) W'∧KeepsWalks W W':=by
 have hne:(313:TypeId)≠310:=by decide
 obtain⟨i0,hi,hz0,hz1,hz2⟩:=info_parts ag7;obtain⟨v,hv,hrow⟩:=h.box;refine⟨fn, #[.slice none 0 0,sv,.pointer (some ⟨p,0,none⟩),undef,.slice none 0 0,undef,sv,y9 (f x),undef,undef,undef,undef,undef],apA,apB,by simpa[rF]using run_yield (P:=prog) (args :=#[y9 (f x)]) h.L rfl,roundIn_of_wpIn hfn ?_⟩;unfold apA y9
 gi_wp2_with gi_round_op_a
 have hl0:l<W.heap.size:=(η.1 h.L).1;obtain⟨WA,hWA⟩:∃WA,W.alloc (.cells #[.int .i64 (f x).1,.int .i64 (f x).2] 310)=WA:=⟨_,rfl⟩;have hWl:=λk hk=>Below.heap_alloc W (.cells #[.int .i64 (f x).1,.int .i64 (f x).2] 310) k hk;have hWn:=World.alloc_heap_new W (.cells #[.int .i64 (f x).1,.int .i64 (f x).2] 310);have hWg:=i_ W (.cells #[.int .i64 (f x).1,.int .i64 (f x).2] 310);have hWk:=KeepsWalks.alloc W (.cells #[.int .i64 (f x).1,.int .i64 (f x).2] 310);have hWr:=hrow.alloc (.cells #[.int .i64 (f x).1,.int .i64 (f x).2] 310);have hWb:=h.below.alloc h.below.size (.cells #[.int .i64 (f x).1,.int .i64 (f x).2] 310);have hWs:WA.heap.size=W.heap.size+1:=by rw[←hWA];simp
 rw[hWA]at hWl hWn hWg hWk hWr hWb;have hLA:WA.heap[l]? = some (.loop (rF fn sv p D .ready none)):=(hWl l hl0).trans h.L;have hl:l<WA.heap.size:=Ω
 have hbr:=run_beginRound (P:=prog) hLA rfl;obtain⟨r,J⟩:∃r,WA.putObj l (.loop { rF fn sv p D .ready none with state :=.busy })=r:=⟨_,rfl⟩;rw[J]at hbr;have hg2:WA.grownBy r (some l):=by rw[←J];exact grownBy_putObj_a _ _ _
 have hk2:KeepsWalks W r:=hWk.trans (by rw[←J];exact KeepsWalks.putObj _ hLA rfl);have hv2:r.heap[p]? = some (.cells #[v] 313 (0,0)):=by rw[←J];exact(World.putObj_heap_other hBl).trans ((hWl p (η.1 hv).1).trans hv)
 have hK2:r.heap[D]? = some (.deferred (some [])):=by rw[←J];exact(World.putObj_heap_other hDl).trans ((hWl D (η.1 h.K).1).trans h.K)
 have hx2:r.heap[W.heap.size]? = some (.cells #[.int .i64 (f x).1,.int .i64 (f x).2] 310 (0,0)):=by rw[←J];exact(World.putObj_heap_other Ω).trans hWn
 have hL2:r.heap[l]? = some (.loop { rF fn sv p D .ready none with state :=.busy }):=by rw[←J];exact World.putObj_heap_same hl
 have C:r.ownsRow w0.heap.size 310 2 v ss.length (flS (ss.map f)):=hWr.kept hg2 (ownsRow_ne_a hWr hLA (λU e=>by first|cases e|exact hne (Z? e).2.1));have hb2:Below w0.heap.size w0 r:=hWb.grown hg2 hWb.size (λk e=>by cases e;exact h0l);obtain⟨hc2,hf2⟩:=cell_of_box_a hv2;have hBlt:p<r.heap.size:=(η.1 hv2).1;have hl2:l<r.heap.size:=(η.1 hL2).1;have hDlt:D<r.heap.size:=(η.1 hK2).1;have hxlt:W.heap.size<r.heap.size:=(η.1 hx2).1;have hx20:r.cell? ⟨W.heap.size,0,none⟩=some (.int .i64 (f x).1):=by simp[World.cell?,hx2]
 have hx21:r.cell? ⟨W.heap.size,1,none⟩=some (.int .i64 (f x).2):=by simp[World.cell?,hx2]
 have R:∀{j:Nat} {o:Obj},r.heap[j]? = some o→(∀U,o ≠ .cells U 310 (0,0))→some j≠v.ownBlock:=λhj hno=>by
  obtain e|e:=ownsRow_ne_a C hj hno
  ·rw[e];simp
  ·exact λe'=>e e'.symm
 clear hWl;rw[hWA];refine⟨r,hbr, ?_⟩;clear J hWA hbr;unfold apB
 gi_wp2_with (first
  |(gi_at_builtin;refine wpListIn_append_own _ rfl _ _ 313 rfl w0.heap.size 310 i0 (.agg #[.int .i64 0,.int .i64 0]) 2 16 ahq hi hz0 hz1 hz2 rfl Ϛ _ _ _ rfl (C.alloc _) ⟨r.heap.size,0,none⟩ 1 1 (celS (f x)) rfl rfl (K0 _ _ _ _) (by simp[Value.oneCell',celS]) Ω Ω (by have:=hb2.size;simp;omega) ?_;intro v' w3 T hg3 hnil3
    have hv3:w3.heap[p]? = some (.cells #[v] 313 (0,0)):=(hg3.block p Ξ (R hv2 (λU e=>by first|cases e|exact hne (Z? e).2.1))).trans ((Below.heap_alloc _ _ p hBlt).trans hv2);obtain⟨hc3,hf3⟩:=cell_of_box_a hv3;obtain⟨g',g,cur',rfl,hbase',hgb',hr1,hr2,hr3,hr4⟩:∃g' g cur',v' = .slice (some ⟨g',0,none⟩) (ss.length+1) g∧w0.heap.size≤g'∧w3.heap[g']? = some (.cells cur' 310 (0,0))∧ss.length+1≤g∧g≤maxLen∧cur'.size=g*2∧cur'.toList.take ((ss.length+1)*2)=flS (ss.map f)++celS (f x):=by
     rcases T.2 with⟨_,h0⟩|h'
     ·exact absurd h0 Ω
     ·exact h'
    go_frame)
  |gi_round_op_a)
 have hg3':(r.alloc (.cells #[.int .i64 (f x).1,.int .i64 (f x).2] 310)).grownBy w3 v.ownBlock:=hg3;have hL3:w3.heap[l]? = some (.loop { rF fn sv p D .ready none with state :=.busy }):=(hg3'.block l Ξ (R hL2 (λU e=>by first|cases e|exact hne (Z? e).2.1))).trans ((Below.heap_alloc _ _ l hl2).trans hL2);have hK3:w3.heap[D]? = some (.deferred (some [])):=(hg3'.block D Ξ (R hK2 (λU e=>by first|cases e|exact hne (Z? e).2.1))).trans ((Below.heap_alloc _ _ D hDlt).trans hK2);obtain⟨w4,hw4⟩:∃w4,w3.setCell ⟨p,0,none⟩ (.slice (some ⟨g',0,none⟩) (ss.length+1) g)=w4:=⟨_,rfl⟩;rw[hw4];have hg4:w3.grownBy w4 (some p):=by rw[←hw4];exact grownBy_setCell0_a _ _ _
 have hv4:w4.heap[p]? = some (.cells #[.slice (some ⟨g',0,none⟩) (ss.length+1) g] 313 (0,0)):=by rw[←hw4];exact heap_setCell_box_a _ hv3
 have hL4:w4.heap[l]? = some (.loop { rF fn sv p D .ready none with state :=.busy }):=(hg4.block l (η.1 hL3).1 (λe=>hBl (by cases e;rfl))).trans hL3;have hK4:w4.heap[D]? = some (.deferred (some [])):=(hg4.block D (η.1 hK3).1 (λe=>hDB (by cases e;rfl))).trans hK3;have hrow4:=T.kept hg4 (ownsRow_ne_a T hv3 (λU e=>by first|cases e|exact hne (Z? e).2.1));have hl4:l<w4.heap.size:=(η.1 hL4).1;have hb3:Below w0.heap.size w0 w3:=(hb2.alloc hb2.size _).grown hg3' (by have:=hb2.size;simp;omega) (λk e=>(C.lt k e).1);have hb4:Below w0.heap.size w0 w4:=hb3.grown hg4 hb3.size (λk e=>by cases e;exact h0B);have hk4:KeepsWalks W w4:=((hk2.trans (KeepsWalks.alloc _ _)).trans (KeepsWalks.of_grownBy hg3' (ownsRow_not_walk_a (C.alloc _)))).trans (by rw[←hw4];exact KeepsWalks.setCell _ _ _);clear hw4;refine⟨_,_,run_endRound none hL4,rfl,⟨⟨_,(World.putObj_heap_other hBl).trans hv4, ?_⟩,World.putObj_heap_same hl4,(World.putObj_heap_other hDl).trans hK4,hb4.grown (grownBy_putObj_a _ _ _) hb4.size (λk e=>by cases e;exact h0l)⟩,hk4.trans (KeepsWalks.putObj _ hL4 rfl)⟩;have:=hrow4.kept (grownBy_putObj_a w4 l (.loop { { rF fn sv p D .ready none with state :=.busy }with state:=if (none:Option Code).isNone then .ready else .done,pending:=none })) (ownsRow_ne_a hrow4 hL4 (λU e=>by first|cases e|exact hne (Z? e).2.1));rw[D?,show List.map f [x]=[f x] from rfl,acN];simpa using this
set_option maxRecDepth 100000 in
set_option maxHeartbeats 2000000 in
def GQ (j:Nat→Int×Int)(F:Fence)(n:Nat)(h11:F.fn 372)(hro:F.round=none)(hn:2≤n)(g:Nat)(J:Array Value)(hFg:F.fn g)(eg:∀args w,(callFunc g args).run prog w = .ok (.enter g args) w)
  (S:List Nat→Prop) (N:Nat) (hN:N≤maxLen) (hNb:N*16≤140737488355328) (w:World) (hseq:SeqGives F (n-1) prog g J (λi=>y9 (j i)) S N w) :
  CallsIn F n prog 372 #[.slice none 0 0,.func (.func g) #[] J] w λe w'=>∃(v:Value) (f:List Nat),e = .returned v∧S f∧w'.ownsRow w.heap.size 310 2 v f.length (flS (f.map j))∧Below w.heap.size w w':=by
 have h1:1≤n:=Ω
 have hne:(313:TypeId)≠310:=by decide
 refine callsIn_of_wp_marks func372 rfl h11 ?_ hro;simp only[ntmps372,H?,r_,ajk,Nat.reduceAdd,Nat.reduceSub,aju,ajt,aja,ajy,t_,ajZ]
 gi_wp2
 refine wpIn_rangeFunc ?_;intro fn hfn;rw[hro];obtain⟨W0,R⟩:∃W0,w.alloc (.cells #[.slice none 0 0] 313)=W0:=⟨_,rfl⟩;have hs0:W0.heap.size=w.heap.size+1:=by rw[←R];simp
 have hv0:W0.heap[w.heap.size]? = some (.cells #[.slice none 0 0] 313 (0,0)):=by rw[←R];exact World.alloc_heap_new w _
 have hb0:Below w.heap.size w W0:=by rw[←R];exact(Below.refl _ w).alloc (ζ _) _
 rw[R];obtain⟨C,l⟩:∃C,(W0.alloc (.deferred (some []))).alloc (.loop (rF fn (.func (.func g) #[] J) w.heap.size W0.heap.size .ready none))=C:=⟨_,rfl⟩;have hold:∀k,k<W0.heap.size→C.heap[k]? = W0.heap[k]?:=λk hk=>by rw[←l];exact(Below.heap_alloc _ _ k Ξ).trans (Below.heap_alloc _ _ k hk)
 have hb1:Below w.heap.size w C:=by rw[←l];exact(hb0.alloc hb0.size _).alloc (by have:=hb0.size;simp;omega) _
 have hs1:C.heap.size=W0.heap.size+2:=by rw[←l];simp
 have hM:ApS j w fn (.func (.func g) #[] J) w.heap.size (W0.heap.size+1) W0.heap.size [] C :=
  ⟨⟨_,(hold w.heap.size Ω).trans hv0,⟨rfl,.inl ⟨rfl,rfl⟩⟩⟩,
   by rw[←l];have:=World.alloc_heap_new (W0.alloc (.deferred (some []))) (.loop (rF fn (.func (.func g) #[] J) w.heap.size W0.heap.size .ready none));rwa[aiu]at this,
   by rw[←l];exact(Below.heap_alloc _ _ _ Ψ).trans (World.alloc_heap_new W0 _),hb1⟩
 refine⟨W0.heap.size+1,[{ target :=.collected W0.heap.size,args :=#[] }],C,{ target :=.fn (.func g) J,args :=#[.func (.yield (W0.heap.size+1)) #[] #[]] },C,g,
  #[.func (.yield (W0.heap.size+1)) #[] #[]]++J,C, ?_, ?_, ?_, ?_,λ_=>h1, ?_⟩
 ·rw[←l];exact run_enterLoop_outer _ _ _ _ _
 ·simp[resolve,go_sem]
 ·intro f' hf';simp[Target.leads]at hf';subst hf';exact hFg
 ·simp[invoke,go_sem,eg]
 ·refine(hseq (W0.heap.size+1) (ApS j w fn (.func (.func g) #[] J) w.heap.size (W0.heap.size+1) W0.heap.size) C hb1 (RQ j _ _ _ _ _ _ _ hb1.size)
   (λpre x W hJ hl=>aaO j F (n-1-1) w fn hfn _ w.heap.size (W0.heap.size+1) W0.heap.size Ω Ω Ω (ζ _) Ω N hN hNb pre x W hJ hl) hM).mono ?_
  rintro e W2 ⟨⟨v0,rfl⟩,ss,hS,h2⟩;obtain⟨v,hv,T⟩:=h2.box;have U:=run_endLoop (P:=prog) h2.L (by simp[rF]);obtain⟨W3,r⟩:∃W3,W2.putObj (W0.heap.size+1) (.loop { rF fn (.func (.func g) #[] J) w.heap.size W0.heap.size .ready none with state :=.exhausted })=W3:=⟨_,rfl⟩;rw[r]at U;have hg3:W2.grownBy W3 (some (W0.heap.size+1)):=by rw[←r];exact grownBy_putObj_a _ _ _
  have hv3:W3.heap[w.heap.size]? = some (.cells #[v] 313 (0,0)):=by rw[←r];exact(World.putObj_heap_other Ω).trans hv
  have hK3:W3.heap[W0.heap.size]? = some (.deferred (some [])):=by rw[←r];exact(World.putObj_heap_other Ω).trans h2.K
  have p:=T.kept hg3 (ownsRow_ne_a T h2.L (λcur e=>by first|cases e|exact hne (Z? e).2.1));have hb3:Below w.heap.size w W3:=h2.below.grown hg3 h2.below.size (λk e=>by cases e;omega);obtain⟨hc3,hf3⟩:=cell_of_box_a hv3;clear r;refine⟨none,W3,U, ?_⟩
  gi_wp2
  rw[←hs0];refine⟨Ψ,.inl ⟨_,_,rfl,run_takeDeferred hK3, ?_⟩⟩;exact⟨_,results_tmp rfl _ _ _,v,ss,rfl,hS,p.kept (grownBy_putObj_a _ _ _) (ownsRow_ne_a p hK3 (λcur e=>by first|cases e|exact hne (Z? e).2.1)),hb3.grown (grownBy_putObj_a _ _ _) hb3.size (λk e=>by cases e;omega)⟩
set_option maxHeartbeats 1000000 in
def OU (j:Nat→Int×Int)(F:Fence)(n:Nat)(h8:F.fn 328)(T:F.fn 372)(r:F.round=none)(hn:3≤n)(g:Nat)(J:Array Value)(R:F.fn g)(eg:∀args w,(callFunc g args).run prog w = .ok (.enter g args) w)
  (S:List Nat→Prop) (N:Nat) (hN:N≤maxLen) (P:N*16≤140737488355328) (w:World) (l:SeqGives F (n-1-1) prog g J (λi=>y9 (j i)) S N w) :
  CallsIn F n prog 328 #[.func (.func g) #[] J] w λe C=>∃(v:Value) (f:List Nat),e = .returned v∧S f∧C.ownsRow w.heap.size 310 2 v f.length (flS (f.map j))∧Below w.heap.size w C:=by
 have e11:∀args w,(callFunc 372 args).run prog w = .ok (.enter 372 args) w:=enters_of func372 Φ rfl;refine callsIn_of_wp func328 rfl h8 ?_ r;simp only[ntmps328,H?,r_,ajk,Nat.reduceAdd,Nat.reduceSub,aju,ajt,aja,ajy,t_,ajZ]
 gi_wp2
 refine⟨λ_=>Ω,(GQ j F (n-1) T r Ω g J R eg S N hN P _ l).mono ?_⟩;rintro e C ⟨v,ss,rfl,hS,p,U⟩
 gi_wp2
 go_ret
 exact⟨v,ss,rfl,hS,p,U⟩
open Go.Sort
attribute [local go_sem] Oper.semAt_some
def NI (x:Int)(w:World):Calls prog 168 #[.int .i64 x] w λe f=>e = .returned (.bool false)∧f=w:=by
 go_enter func168,ntmps168
 go_wp2
 go_ret
 exact⟨Ψ,rfl⟩
def rl (x y:Int):Int:=if x<y then -1 else if y<x then 1 else 0
set_option maxHeartbeats 1000000 in
def wb (x y:Int)(w:World):Calls prog 136 #[.int .i64 x,.int .i64 y] w λe f=>e = .returned (.int .i64 (rl x y))∧f=w:=by
 go_enter func136,ntmps136
 go_wp2_with (first|(go_at_call 168;refine(NI _ _).mono ?_;rintro e f ⟨rfl,g⟩;rw[g])|go_in)
 all_goals (go_ret;refine⟨?_,rfl⟩;unfold rl;(repeat' split) <;> first|rfl|(exfalso;omega))
def U8 (a b:Int):Int:=if a=0 then b else a
set_option maxHeartbeats 1000000 in
def Yi (a b:Int)(v:Nat)(w:World)(r:w.cell? ⟨v,0,none⟩=some (.int .i64 a))(p:w.cell? ⟨v,1,none⟩=some (.int .i64 b)) :
  Calls prog 135 #[.slice (some ⟨v,0,none⟩) 2 2] w λe j=>e = .returned (.int .i64 (U8 a b))∧j=w:=by
 by_cases g:a=0
 ·subst g;by_cases l:b=0
  ·subst l
   go_enter func135,ntmps135
   go_wp2
   go_loopw [5,8] (λ_ i wr=>∃k:Nat,k≤2∧i = .int .i64 k∧wr=w) (λ_ i _=>2-(intOf i).toNat)
   case atStart=>exact⟨0,Ω,rfl,rfl⟩
   case round=>
    obtain⟨k,f,rfl,rfl⟩:=hrel;match k,f with
    |0,_=>
     go_wp2;go_roundw;case rel=>exact⟨1,Ω,Ψ,ans⟩
     case measure=>simp[intOf]
    |1,_=>
     go_wp2;go_roundw;case rel=>exact⟨2,Ω,Ψ,ans⟩
     case measure=>simp[intOf]
    |2,_=>go_wp2;go_ret;exact⟨rfl,rfl⟩
  ·go_enter func135,ntmps135
   go_wp2
   go_loopw [5,8] (λ_ i wr=>∃k:Nat,k≤1∧i = .int .i64 k∧wr=w) (λ_ i _=>2-(intOf i).toNat)
   case atStart=>exact⟨0,Ω,rfl,rfl⟩
   case round=>
    obtain⟨k,f,rfl,rfl⟩:=hrel;match k,f with
    |0,_=>
     go_wp2;go_roundw;case rel=>exact⟨1,Ω,Ψ,ans⟩
     case measure=>simp[intOf]
    |1,_=>go_wp2;go_ret;exact⟨by simp[U8],rfl⟩
 ·go_enter func135,ntmps135
  go_wp2
  go_loopw [5,8] (λ_ i wr=>i = .int .i64 0∧wr=w) (λ_ i _=>2-(intOf i).toNat)
  case atStart=>exact⟨rfl,rfl⟩
  case round=>
   obtain⟨rfl,rfl⟩:=hrel
   go_wp2;go_ret;exact⟨by simp[U8,g],rfl⟩
def aho (a b:World):Prop:=a=b
def VZ (w:World)(f:Array Obj):(grow w f).drew=grow (w.drewN 1) f:=rfl
def Re (w:World)(f:Array Obj)(g:Array Value)(t:TypeId):(grow w f).alloc (.cells g t)=grow w (f ++ #[.cells g t]):=by rw[←grow_grow];rfl
set_option maxRecDepth 100000 in
set_option maxHeartbeats 2000000 in
def FX (x y:Int×Int)(w:World):Calls prog 266 #[y9 x,y9 y] w λe C=>e = .returned (.int .i64 (U8 (rl x.1 y.1) (rl x.2 y.2)))∧∃q j,C=grow (w.drewN q) j:=by
 unfold y9
 go_enter func266,ntmps266
 go_wp2
 have T:prog.follows .mixedOrders=true:=Φ
 have P:=World.alloc_heap_new w (.cells #[.int .i64 x.1,.int .i64 x.2] 310);have f:=(Below.heap_alloc (w.alloc (.cells #[.int .i64 x.1,.int .i64 x.2] 310)) (.cells #[.int .i64 y.1,.int .i64 y.2] 310) w.heap.size Ψ).trans P;have p:=World.alloc_heap_new (w.alloc (.cells #[.int .i64 x.1,.int .i64 x.2] 310)) (.cells #[.int .i64 y.1,.int .i64 y.2] 310);rw[aiu]at p;have l:∃j,(w.alloc (.cells #[.int .i64 x.1,.int .i64 x.2] 310)).alloc (.cells #[.int .i64 y.1,.int .i64 y.2] 310)=grow w j:=⟨#[_] ++ #[_],by rw[←grow_grow];rfl⟩;generalize (w.alloc (.cells #[.int .i64 x.1,.int .i64 x.2] 310)).alloc (.cells #[.int .i64 y.1,.int .i64 y.2] 310)=W at *;have c0:W.cell? ⟨w.heap.size,0,none⟩=some (.int .i64 x.1):=by simp[World.cell?,f]
 have c1:W.cell? ⟨w.heap.size,1,none⟩=some (.int .i64 x.2):=by simp[World.cell?,f]
 have c2:W.cell? ⟨w.heap.size+1,0,none⟩=some (.int .i64 y.1):=by simp[World.cell?,p]
 have c3:W.cell? ⟨w.heap.size+1,1,none⟩=some (.int .i64 y.2):=by simp[World.cell?,p]
 refine wp_region_still_tail 10 T Φ ?_;simp;iterate 4 still_step
 still_call (wb x.1 y.1 W.drew)
 iterate 4 still_step
 still_call (wb x.2 y.2 W.drew)
 refine wpStill_nil ?_;change wpList _ _ _ _ _ W.drew;clear P f p c0 c1 c2 c3;obtain⟨j,l⟩:=l;have r:aho W.drew (grow (w.drewN 1) j):=by rw[l,VZ];rfl
 clear l;generalize W.drew=g at *;have J:=World.alloc_heap_new g (.cells #[.int .i64 (rl x.1 y.1),.int .i64 (rl x.2 y.2)] 3);have d0:(g.alloc (.cells #[.int .i64 (rl x.1 y.1),.int .i64 (rl x.2 y.2)] 3)).cell? ⟨g.heap.size,0,none⟩=some (.int .i64 (rl x.1 y.1)):=by unfold World.cell?;rw[J];rfl
 have U:(g.alloc (.cells #[.int .i64 (rl x.1 y.1),.int .i64 (rl x.2 y.2)] 3)).cell? ⟨g.heap.size,1,none⟩=some (.int .i64 (rl x.2 y.2)):=by unfold World.cell?;rw[J];rfl
 go_wp2_with (go_at_call 135;refine(Yi (rl x.1 y.1) (rl x.2 y.2) g.heap.size _ d0 U).mono ?_;rintro e C ⟨rfl,R⟩;rw[R])
 go_ret
 refine⟨rfl,1,j ++ #[.cells #[.int .i64 (rl x.1 y.1),.int .i64 (rl x.2 y.2)] 3], ?_⟩;rw[show g=_ from r,Re]
end Abs
namespace Go.Proofs
open Go.Shelf Tryz
def Tryz.laysK_ren:Go.Shelf.Ren:=⟨λ|6=>329|15=>110|14=>373|28=>166|29=>167|20=>394|21=>395|22=>396|23=>397|24=>398|25=>399|26=>400|27=>401|46=>415|47=>235|48=>236|49=>416|50=>417|57=>421|n=>n,λ|22=>313|24=>310|25=>318|3=>3|39=>157|0=>0|53=>240|55=>242|4=>4|46=>234|45=>233|50=>103|5=>5|9=>9|66=>290|70=>294|76=>347|77=>151|n=>n,λ|n=>n⟩
def Tryz.laysK:Go.Proofs.SlLaysF0.n6 Tryz.prog Tryz.laysK_ren:={
 mixed:=by kernel_rfl
 f6:=⟨Tryz.f329.name,by decide,Tryz.func329.trans (congrArg some (by kernel_rfl))⟩
 f14:=⟨Tryz.f373.name,by decide,Tryz.func373.trans (congrArg some (by kernel_rfl))⟩
 f15:=Tryz.func110.trans (congrArg some (by kernel_rfl))
 f20:=⟨Tryz.f394.name,by decide,Tryz.func394.trans (congrArg some (by kernel_rfl))⟩
 f21:=⟨Tryz.f395.name,by decide,Tryz.func395.trans (congrArg some (by kernel_rfl))⟩
 f22:=⟨Tryz.f396.name,by decide,Tryz.func396.trans (congrArg some (by kernel_rfl))⟩
 f23:=⟨Tryz.f397.name,by decide,Tryz.func397.trans (congrArg some (by kernel_rfl))⟩
 f24:=⟨Tryz.f398.name,by decide,Tryz.func398.trans (congrArg some (by kernel_rfl))⟩
 f25:=⟨Tryz.f399.name,by decide,Tryz.func399.trans (congrArg some (by kernel_rfl))⟩
 f26:=⟨Tryz.f400.name,by decide,Tryz.func400.trans (congrArg some (by kernel_rfl))⟩
 f27:=⟨Tryz.f401.name,by decide,Tryz.func401.trans (congrArg some (by kernel_rfl))⟩
 f28:=Tryz.func166.trans (congrArg some (by kernel_rfl))
 f29:=Tryz.func167.trans (congrArg some (by kernel_rfl))
 f46:=⟨Tryz.f415.name,by decide,Tryz.func415.trans (congrArg some (by kernel_rfl))⟩
 f47:=Tryz.func235.trans (congrArg some (by kernel_rfl))
 f48:=Tryz.func236.trans (congrArg some (by kernel_rfl))
 f49:=⟨Tryz.f416.name,by decide,Tryz.func416.trans (congrArg some (by kernel_rfl))⟩
 f50:=⟨Tryz.f417.name,by decide,Tryz.func417.trans (congrArg some (by kernel_rfl))⟩
 f57:=⟨Tryz.f421.name,by decide,Tryz.func421.trans (congrArg some (by kernel_rfl))⟩
 t0:=Tryz.underlying0
 a0:=Tryz.isAgg0
 z0:=Tryz.sizeOf0
 v0:=Tryz.zeroValue0
 t3:=Tryz.underlying3
 a3:=Tryz.isAgg3
 z3:=Tryz.sizeOf3
 v3:=Tryz.zeroValue3
 t4:=Tryz.underlying4
 a4:=Tryz.isAgg4
 z4:=Tryz.sizeOf4
 v4:=Tryz.zeroValue4
 t5:=Tryz.underlying5
 a5:=Tryz.isAgg5
 z5:=Tryz.sizeOf5
 v5:=Tryz.zeroValue5
 t9:=Tryz.underlying9
 a9:=Tryz.isAgg9
 z9:=Tryz.sizeOf9
 v9:=Tryz.zeroValue9
 t22:=Tryz.underlying313
 a22:=Tryz.isAgg313
 z22:=Tryz.sizeOf313
 v22:=Tryz.zeroValue313
 t25:=Tryz.underlying318
 a25:=Tryz.isAgg318
 z25:=Tryz.sizeOf318
 v25:=Tryz.zeroValue318
 t39:=Tryz.underlying157
 a39:=Tryz.isAgg157
 z39:=Tryz.sizeOf157
 v39:=Tryz.zeroValue157
 t45:=Tryz.underlying233
 a45:=Tryz.isAgg233
 z45:=Tryz.sizeOf233
 v45:=Tryz.zeroValue233
 t46:=Tryz.underlying234
 a46:=Tryz.isAgg234
 z46:=Tryz.sizeOf234
 v46:=Tryz.zeroValue234
 t50:=Tryz.underlying103
 a50:=Tryz.isAgg103
 z50:=Tryz.sizeOf103
 v50:=Tryz.zeroValue103
 t53:=Tryz.underlying240
 a53:=Tryz.isAgg240
 z53:=Tryz.sizeOf240
 v53:=Tryz.zeroValue240
 t55:=Tryz.underlying242
 a55:=Tryz.isAgg242
 z55:=Tryz.sizeOf242
 v55:=Tryz.zeroValue242
 t66:=Tryz.underlying290
 a66:=Tryz.isAgg290
 z66:=Tryz.sizeOf290
 v66:=Tryz.zeroValue290
 t70:=Tryz.underlying294
 a70:=Tryz.isAgg294
 z70:=Tryz.sizeOf294
 v70:=Tryz.zeroValue294
 t76:=Tryz.underlying347
 a76:=Tryz.isAgg347
 z76:=Tryz.sizeOf347
 v76:=Tryz.zeroValue347
 t77:=Tryz.underlying151
 a77:=Tryz.isAgg151
 z77:=Tryz.sizeOf151
 v77:=Tryz.zeroValue151 }
end Go.Proofs
namespace Abs
open Go Go.Proofs Go.RowKit Go.Maps Go.Shelf Go.Sort Tryz
attribute [local go_sem] Oper.semAt_some
def cmpS (x y:Int×Int):Int:=U8 (rl x.1 y.1) (rl x.2 y.2)
def cmpS_lt (x y:Int×Int):cmpS x y<0↔(x.1<y.1∨(x.1=y.1∧x.2<y.2)):=by
 unfold cmpS U8 rl
 repeat' split
 all_goals omega
def Z8:SWO (ltOf cmpS) where
 irrefl x:=by simp only[ltOf,aiG,cmpS_lt];omega
 trans x y z h1 h2:=by simp only[ltOf,ρ,cmpS_lt]at *;omega
 ntrans x y z h1 h2:=by simp only[ltOf,aiG,cmpS_lt]at *;omega
def aal (x:Int×Int):(celS x).length=2:=rfl
def aak (x:Int×Int):∀v∈celS x,v.oneCell'=true:=by simp[celS,Value.oneCell']
def aeb (d:Array (Int×Int)):(flatK celS 2 d).toList=flS d.toList:=by
 have p:∀(l:List (Int×Int)) (j:Nat),j<l.length*2→(flS l)[j]? = some ((celS l.toArray[j/2]!)[j%2]!):=by
  intro l;induction l with
  |nil=>intro j g;simp at g
  |cons h l r=>
   intro j g;match j with
   |0=>rfl
   |1=>rfl
   |j+2=>
    rw[show(flS (h::l))[j+2]? = (flS l)[j]? from rfl,r j (by simp at g;omega),show(j+2)/2=j/2+1 by omega,show(j+2)%2=j%2 by omega];have f:j/2<l.length:=by simp at g;omega
    simp[aiI,f]
 apply X_;intro j;by_cases g:j<d.size*2
 ·rw[p d.toList j (by simpa using g)];have f:j<(flatK celS 2 d).size:=by rw[size_flatK];exact g
  rw[f_,W_ f,←getElem!_pos _ j f,get_flatK _ _ _ _ g]
 ·rw[u_ (by rw[ω,size_flatK];omega),u_ (by rw[KD];simp;omega)]
variable{W:World}{f:Array Value}{e:TypeId}{l:List (Int×Int)}{d:Array (Int×Int)}
def afu {g:Nat}(h:W.heap[g]? = some (.cells f e (0,0)))(P:f.toList.take (l.length*2)=flS l):HoldsK celS 2 W g 0 l.toArray:=by
 intro j C;rw[size_flatK]at C;have C:j<l.length*2:=by simpa using C
 have p:j<f.size:=by have:=Y' List.length P;simp[KD]at this;omega
 have T:f[j]? = (flS l)[j]?:=by rw[←P,N? C,f_]
 have R:(flatK celS 2 l.toArray)[j]! = f[j]:=by
  have r:j<(flatK celS 2 l.toArray).size:=by rw[size_flatK];simpa using C
  rw[aiI _ j r];have J:=Y' (λx=>x[j]?) (aeb l.toArray);simp[W_ r]at J;rw[←T,W_ p]at J;exact π J
 rw[R,Z'];refine⟨?_, ?_⟩
 ·unfold World.cell?;rw[h];simp[p]
 ·unfold World.frozen?;rw[h];simp
def JG (w:World)(g j:Nat)(F:Array Value){l:Nat×Nat}(h:w.heap[g]? = some (.cells f e l)):(putRow id w g j F).heap[g]? = some (.cells (putCells id j F f) e l):=by unfold putRow mapBlock;simp[z?,h,onCells]
def wD (w:World)(f g:Nat)(F:Array Value){b:Nat}(h:b≠f):(putRow id w f g F).heap[b]? = w.heap[b]?:=by unfold putRow mapBlock;simp[z?,Ne.symm h]
def Dz (F f:Array Value)(h:F.size≤f.size):(putCells id 0 F f).toList.take F.size=F.toList:=by
 apply X_;intro j;simp only[putCells,K'];by_cases g:j<F.size
 ·have:j<f.size:=Ω
  simp[g,this,aiI]
 ·rw[B' g,u_ Ξ]
def ad0 (w:World)(g f n:Nat)(d:Array (Int×Int))(j:Array Obj):(putRowK celS 2 (Sort.ahead w n) g f d).heap.size=w.heap.size:=size_putRow _ _ _ _ _
def UB {g cap n:Nat}{j:Nat}{os:Array Obj}(r:j≤g)(h:W.heap[g]? = some (.cells f e (0,0)))(T:d.size≤cap)(R:cap≤maxLen)(C:f.size=cap*2) :
  (sortWorldK celS 2 W g 0 n d os).ownsRow j e 2 (.slice (some ⟨g,0,none⟩) d.size cap) d.size (flS d.toList)∧W.grownBy (sortWorldK celS 2 W g 0 n d os) (some g):=by
 have p:g<W.heap.size:=(η.1 h).1;have P:(sortWorldK celS 2 W g 0 n d os).heap[g]? = some (.cells (putCells id 0 (flatK celS 2 d) f) e (0,0)):=by unfold sortWorldK grow;simp only;rw[G_ (by rw[ad0 W g 0 n d os];exact p)];exact JG (Sort.ahead W n) g 0 _ h
 refine⟨⟨by rw[KD];simp,.inr ⟨g,cap,_,rfl,r,P,T,R,by rw[←C];simp[putCells], ?_⟩⟩,rfl,rfl,rfl,size_sortWorldK_c _ _ _ _ _ _ _ _,λb r l=>?_⟩
 ·have J:(flatK celS 2 d).size=d.size*2:=size_flatK ..;rw[←aeb,←J,Dz _ _ (by rw[J,C];omega)]
 ·have l:b≠g:=λe=>l (by rw[e]);unfold sortWorldK grow;simp only;rw[G_ (by rw[ad0 W g 0 n d os];exact r)];exact wD _ _ _ _ l
def FY (J:d.toList.Perm l)(C:SortedIn (ltOf cmpS) 0 d.size d)(P:l.Pairwise λx y=>cmpS x y<0):d.toList=l:=by
 have r:d.toList.Pairwise λx y=>¬cmpS y x<0:=by
  rw[f?];intro i j T R g;have p:i<d.size:=by simpa using T
  have f:j<d.size:=by simpa using R
  have:=C i j (c_ _) g f;rw[aiI d j f,aiI d i p]at this;simpa[ltOf]using this
 refine List.Perm.eq_of_pairwise (le:=λx y=>¬cmpS y x<0) (λx y _ _ r U=>?_) r (P.imp λ{x y} h=>?_) J
 ·rw[cmpS_lt]at r U;exact Prod.ext Ω Ω
 ·rw[cmpS_lt]at h⊢;omega
set_option maxRecDepth 100000 in
set_option maxHeartbeats 2000000 in
def sortedS_calls (Bm b:Nat)(r:Array MapEntry)(clock:Nat)(U:∀x∈r.toList,x.born<clock)(hnd:(r.toList.map (·.born)).Nodup)(g:Nat→Int×Int)(hkey:∀i,i<r.size→(entA r i).key=y9 (g i))(h0:0<r.size)(hN:r.size≤1048576)(J:List (Int×Int))(hks:((List.range r.size).map g).Perm J)(hlt:J.Pairwise λx y=>cmpS x y<0)
  (w:World) (hBm:Bm<w.heap.size) (hm:w.cell? ⟨Bm,0,none⟩=some (.map (some b))) (hb:w.heap[b]? = some (.map r clock)) :
  Calls prog 264 #[.func (.func 330) #[] #[.pointer (some ⟨Bm,0,none⟩)],.func (.func 266) #[] #[]] w
   λe w'=>∃v,e = .returned v∧Below w.heap.size w w'∧w'.ownsRow w.heap.size 310 2 v J.length (flS J):=by
 let F:Fence:={ fn:=λ_=>True };have hg2:=NG F 3 trivial rfl Ω Bm b r clock U hnd g hkey w hBm hm hb;have hc:=(OU g F 5 trivial trivial rfl Ω 330 #[.pointer (some ⟨Bm,0,none⟩)] trivial (enters_of func330 Φ rfl) _ r.size (by unfold maxLen;omega) Ω w hg2).calls (λk d h=>by cases h)
 go_enter func264,ntmps264
 go_wp2_with (go_at_call 328;refine hc.mono ?_;rintro e W ⟨v,C,rfl,⟨hin,hmem⟩,hrow,P⟩)
 have j:(C.map g).length=C.length:=o_ ..;have l:(C.map g).Perm J:=by refine List.Perm.trans (List.Perm.map g ?_) hks;rw[aj7 hin List.nodup_range];intro i;rw[hmem,F_]
 have R:C.length=J.length:=by rw[←j];exact l.length_eq
 have hkl:J.length=r.size:=by rw[←hks.length_eq];simp
 rcases hrow.2 with⟨_,hz⟩|⟨gb,cap,f,rfl,p,T,r1,r2,r3,r4⟩
 ·omega
 have hgl:gb<W.heap.size:=(η.1 T).1;have hH:HoldsK celS 2 W gb 0 (C.map g).toArray:=afu T (by rw[j];exact r4);have hS:=AnyQ.slices_SortFunc laysK 2 isAgg310 sizeOf310 celS aal aak cmpS Z8 266 #[] gb 0 cap (C.map g).toArray W (enters_of func266 Φ rfl)
  (λm os dk _ x y=>FX x y _) hH hgl Ξ
 rw[H?,j]at hS
 go_wp2_with (go_at_call 329;refine hS.mono ?_;rintro e w' ⟨rfl,d',n,os,⟨p1,p2,p3⟩,hsd,rfl⟩)
 go_ret
 have hp:d'.toList.Perm J:=by
  have h1:d'.size=(C.map g).toArray.size:=p1;have:(d'.extract 0 d'.size).toList.Perm (C.map g):=by rw[h1];have q:=p3;simp[j]at q⊢;simpa[V?,j]using q
  simp at this;exact this.trans l
 have hd:=FY hp (by rw[show d'.size=C.length by rw[p1];simp];exact hsd) hlt;have hds:d'.size=C.length:=by rw[p1];simp
 have hr:=UB (n:=n) (os:=os) (d:=d') p T Ω r2 r3;rw[hd,hds,R,hkl]at hr;refine⟨_,rfl,P.grown hr.2 P.size (λk e=>by cases e;exact p), ?_⟩;rw[hkl];exact hr.1
