/- Closed runs. -/
import Derived.Test.YtfgpipfjalmooaaGreatSkE
import Derived.Test.YtfgpipfjalmooaaGreatKpJ
import Derived.Test.YtfgpipfjalmooaaGreatJoinA
import Derived.Test.YtfgpipfjalmooaaGreatGenG
set_option linter.all false
noncomputable section
namespace Go.Proofs.YtfgpipfjalmooaaGreat
namespace Abs
open Go Go.Proofs Go.RowKit Go.Maps Tryz
attribute [local go_sem] Oper.semAt_some
def aix:prog.underlying 63=some (.map 3 4):=Φ
set_option maxRecDepth 100000 in
set_option maxHeartbeats 1000000 in
def abH (F:Fence)(n:Nat)(h10:F.fn 63)(hro:F.round=none)(hn:1≤n)(l Bm b:Nat)(g:Array MapEntry)(clock:Nat)(R:∀x∈g.toList,x.born<clock)(hnd:(g.toList.map (·.born)).Nodup)(T:Nat→Int)(U:∀i,i<g.size→(entA g i).key = .int .i64 (T i))(J:List Nat→World→Prop)
  (hY:∀f i W,J f W→i<g.size→f.length<g.size→YieldAt F (n-1) prog l #[.int .i64 (T i)] W λe W'=>e = .returned (.bool true)∧J (f++[i]) W'∧KeepsWalks W W')
  (W:World) (hJ:AbidesFrom W.heap.size J) (hm:W.cell? ⟨Bm,0,none⟩=some (.map (some b))) (hb:W.heap[b]? = some (.map g clock)) (h0:J [] W) :
  CallsIn F n prog 63 #[.func (.yield l) #[] #[],.pointer (some ⟨Bm,0,none⟩)] W λe W'=>(∃v,e = .returned v)∧∃f:List Nat,f.Nodup∧(∀i,i∈f↔i<g.size)∧J f W':=by
 refine callsIn_of_wp func63 rfl h10 ?_ hro;simp[ntmps63,D?,s_,ajH,Nat.reduceAdd,Nat.reduceSub,aj7,aj6,ajT,aka,n_,akw]
 gi_wp2_with (first
  |(gi_at_range;refine mf rfl _ 63 rfl 3 4 aix b g clock rfl hb ?_;intro w0 P)
  |gi_in)
 have hg0:W.grownBy w0 none:=by rw[P];exact C' _ _ _
 have hr0:RawIt w0 b W.heap.size g clock []:=by rw[P];exact⟨(Below.heap_alloc _ _ b (δ.1 hb).1).trans hb,World.alloc_heap_new _ _,w?,λ_ h=>by cases h⟩
 clear P
 go_frame
 gi_loopw [3] (λ_ wr=>∃f:List Nat,RawIt wr b W.heap.size g clock f∧J f wr) (λ_ wr=>g.size-zP wr W.heap.size)
 case atStart=>exact⟨[],hr0,hJ [] W w0 none h0 hg0 (λr e=>by cases e)⟩
 case round=>
  obtain⟨f,p,hJs⟩:=hrel
  gi_wp2_with (first
   |(gi_at_next;refine iw rfl _ rfl b W.heap.size g clock f R hnd rfl p ?_ ?_)
   |gi_in)
  ·
   intro hall
   gi_wp2
   go_end0
   exact⟨⟨_,rfl⟩,f,p.nd,λi=>⟨p.lt i,hall i⟩,hJs⟩
  ·intro i w2 hi hni j hg2 hs2 hen;have hx:=U i hi;have hJ2:J f w2:=hJ f wr w2 (some W.heap.size) hJs hg2 (λr e=>by cases e;exact⟨ζ _,_,p.it,rfl⟩);have hll:f.length<g.size:=by
    have:=Ct j.nd j.lt;rw[Y']at this;exact this
   obtain⟨fn,tmps,assign,body,hy,hR⟩:=hY f i _ hJ2 hi hll;rw[hx]at hen⊢;clear hs2
   gi_wp2
   refine hR.mono ?_;rintro e W3 ⟨rfl,hJ4,hk3⟩
   gi_wp2
   have C:=j.kept hk3
   go_roundw
   case rel=>exact⟨_,C,hJ4⟩
   case measure=>rw[C.len,p.len,Y'];simp;omega
def Qf (F:Fence)(n:Nat)(h10:F.fn 63)(R:F.round=none)(hn:1≤n)(P b:Nat)(g:Array MapEntry)(clock:Nat)(r:∀x∈g.toList,x.born<clock)(T:(g.toList.map (·.born)).Nodup)(f:Nat→Int)(C:∀i,i<g.size→(entA g i).key = .int .i64 (f i))(ks:List Int)(U:((List.range g.size).map f).Perm ks)
  (w:World) (hBm:P<w.heap.size) (hm:w.cell? ⟨P,0,none⟩=some (.map (some b))) (hb:w.heap[b]? = some (.map g clock)) :
  SeqGives F n prog 63 #[.pointer (some ⟨P,0,none⟩)] encZ (λss:List Int=>ss.Perm ks) g.size w:=λl J W hW hJ hY h0=>by
 refine(abH F n h10 R hn l P b g clock r T f C (λj W=>J (j.map f) W) (λj i W1 h1 hi h2=>by
  have:=hY (j.map f) (f i) W1 h1 (by rw[b_];exact h2);rw[M_,akj];exact this) W (λj=>hJ (j.map f)) ((hW.cell (p:=⟨P,0,none⟩) hBm).trans hm) ((hW.block b (δ.1 hb).1).trans hb) h0).mono ?_
 rintro e W' ⟨h1,j,h2,h3,h4⟩;refine⟨h1,j.map f,List.Perm.trans (List.Perm.map f ?_) U,h4⟩;rw[V? h2 List.nodup_range];intro i;rw[h3,G_]
def sortedI_calls (J b:Nat)(g:Array MapEntry)(clock:Nat)(p:∀x∈g.toList,x.born<clock)(T:(g.toList.map (·.born)).Nodup)(l:Nat→Int)(C:∀i,i<g.size→(entA g i).key = .int .i64 (l i))(hN:g.size≤1048576)(j:List Int)(U:((List.range g.size).map l).Perm j)(hs:j.Pairwise λx y=>x<y)
  (w:World) (hBm:J<w.heap.size) (hm:w.cell? ⟨J,0,none⟩=some (.map (some b))) (hb:w.heap[b]? = some (.map g clock)) :
  Calls prog 30 #[.func (.func 63) #[] #[.pointer (some ⟨J,0,none⟩)]] w λe R=>∃v,e = .returned v∧Below w.heap.size w R∧R.ownsRow w.heap.size 3 1 v j.length (intsI j):=by
 have r:=Qf Fence.wide 4 trivial rfl Ω J b g clock p T l C j U w hBm hm hb;refine(callsIn_wide (n:=7)).1 ((Sp 7 rfl J w _ g.size (by unfold maxLen;omega) Ω r).mono ?_);rintro e R ⟨v,ss,rfl,hp,f,hbl⟩;have e:(ss.mergeSort λx y=>decide (x≤y))=j:=by have P:=aln (le:=λx y:Int=>decide (x≤y)) (λa b c P h2=>by simp at *;omega) (λa b=>by simp;omega) ss;refine alh (le:=λx y=>decide (x≤y)=true) (λx y _ _ P h2=>by simp at P h2;omega) P (hs.imp λ{x y} h=>by simp;omega) ((List.mergeSort_perm _ _).trans hp)
 rw[e]at f;have hl:ss.length=j.length:=hp.length_eq;rw[hl]at f;exact⟨v,rfl,hbl,f⟩
end Abs
namespace Clo
open Go Go.RowKit Tryz
def YH:List ME→Option (List (Int×Int))
 |[]=>some []
 |e::l=>match e.key,YH l with
  |.agg [.int .i64 a,.int .i64 b],some r=>some ((a,b)::r)
  |_,_=>none
def agN (a b:List (Int×Int)):Bool:=a.all λx=>b.contains x
def D5 {f:Type}[BEq f]:List f→Bool
 |[]=>true
 |x::l=>!l.contains x&&D5 l
def ain:List (Int×Int)→Bool
 |x::y::l=>decide (Abs.cmpS x y<0)&&ain (y::l)
 |_=>true
def acr (g:List (Int×Int))(j:List ME)(clock:Nat):Bool:=match YH j with
 |some f=>agN f g&&agN g f&&D5 f&&D5 g&&D5 (j.map (·.born))&&j.all (λe=>Nat.blt e.born clock)&&Nat.ble f.length 1048576&&Nat.blt 0 f.length
 |none=>false
def okS (g:List (Int×Int))(b:HP)(args:List TV)(d:DM):Bool:=match args with
 |[.pv (.one (.clo k)),.pv (.one (.fnc c))]=>Nat.beq c 196&&(match (HP.ov b d).get k with
  |.clo (.func f) [] [.one (.ptr q 0 0)]=>Nat.beq f 244&&(match (HP.ov b d).get q with
   |.row _ 1 _ _ _ _=>(match pI ((HP.ov b d).get q) 0 1 1 0 with
    |some [[.mp m]]=>(match (HP.ov b d).get m with
     |.map j clock=>acr g j clock
     |_=>false)
    |_=>false)
   |_=>false)
  |_=>false)
 |_=>false
def AO:∀{g:List ME} {f:List (Int×Int)},YH g=some f→f.length=g.length
 |[],f,h=>by cases h;rfl
 |e::g,f,h=>by
  unfold YH at h;split at h
  next a b r h1 h2=>cases h;simp[AO h2]
  ·cases h
def V0:∀{g:List ME} {f:List (Int×Int)},YH g=some f→∀(i:Nat) (e:ME),g[i]? = some e→e.key = .agg [.int .i64 (f.getD i (0,0)).1,.int .i64 (f.getD i (0,0)).2]
 |[],f,h,i,e,he=>by simp at he
 |e0::g,f,h,i,e,he=>by
  unfold YH at h;split at h
  next a b r h1 h2=>
   cases h;cases i with
   |zero=>simp at he;subst he;simpa using h1
   |succ i=>simpa using V0 h2 i e (by simpa using he)
  ·cases h
def ib {f:Type}[BEq f][LawfulBEq f]:∀{l:List f},D5 l=true→l.Nodup
 |[],_=>w?
 |x::l,h=>by simp only[D5,ι,R?]at h;exact M?.2 ⟨λg=>(by rw[S_.2 g]at h;exact absurd h.1 Ϛ),ib h.2⟩
def Ta (f:List (Int×Int)):(List.range f.length).map (λi=>f.getD i (0,0))=f:=by refine akv Ψ λi j g=>?_;simp[E',ε g]
def IY {x y z:Int×Int}(h:Abs.cmpS x y<0)(g:Abs.cmpS y z<0):Abs.cmpS x z<0:=by rw[Abs.cmpS_lt]at *;omega
def Yd [SymVal]{ks:List (Int×Int)}(r:ks.Pairwise λx y=>Abs.cmpS x y<0)(B:Nat)(W:W0)(T:Gx)(b:HP)(d:DM)(args:List TV)(vs:List Value)(w:World)(g:okS ks b args d=true)(hI:Inv B W T (HP.ov b d).get w)(hr:RTs T args vs) :
  cj prog 194∧Calls prog 194 vs.toArray w λe w'=>∃v,e = .returned v∧Below w.heap.size w w'∧dz w≤dz w'∧w'.ownsRow w.heap.size 246 2 v ks.length (Abs.flS ks):=by
 refine⟨⟨_,func194,rfl,Φ⟩, ?_⟩;unfold okS at g;split at g;case h_2=>cases g
 rename_i k c;rw[ι]at g;obtain⟨hc,g⟩:=g;obtain rfl:=κ hc;split at g;case h_2=>cases g
 rename_i f q hk;rw[ι]at g;obtain⟨hf,g⟩:=g;obtain rfl:=κ hf;split at g;case h_2=>cases g
 rename_i e0 el0 len0 ab3 fz0 hq;split at g;case h_2=>cases g
 rename_i m hrow;split at g;case h_2=>cases g
 rename_i es clock hm;unfold acr at g;split at g;case h_2=>cases g
 rename_i kl C;simp only[ι]at g;obtain⟨⟨⟨⟨⟨⟨⟨a1,a2⟩,a3⟩,a4⟩,a5⟩,a6⟩,a7⟩,a8⟩:=g;match vs,hr with
 |[v1,v2],⟨U,h2,_⟩=>
  have U:den T (.clo k)=some v1:=U;have h2:some (Value.func (.func 196) #[] #[])=some v2:=h2;obtain rfl:=υ h2;have hoq:=hI.obj q;rw[hq]at hoq;obtain⟨_,_,_,_,hloc⟩:=hoq;obtain⟨lq,R,_,_⟩:=hloc 0 (i_ _);have g:=hI.obj k;rw[hk]at g;obtain⟨_,a,c,q1,q2,q3⟩:=g;obtain rfl:[]=a:=υ q1;have q2:(match den T (.ptr q 0 0),(some []:Option (List Value))with|some v,some vs=>some (v::vs)|_,_=>none)=some c:=q2;have hp:den T (.ptr q 0 0)=some (.pointer (some ⟨lq.b,0,none⟩)):=by simp only[den,R]
  rw[hp]at q2;obtain rfl:=υ q2;obtain rfl:Value.func (.func 244) #[] #[.pointer (some ⟨lq.b,0,none⟩)]=v1:=by simp only[den,q3]at U;exact υ U
  obtain⟨_,_,ds,r3,r4⟩:=hI.rds R hrow;obtain⟨u,rfl,hu⟩:=Ri (c :=.mp m) r3;have hom:=hI.obj m;rw[hm]at hom;obtain⟨_,lm,j,hlm,_,hb,hes⟩:=hom;have hu:some (Value.map (some lm.b))=some u:=by simpa only[den,hlm]using hu
  obtain rfl:=υ hu;have p:j.size=kl.length:=by rw[AO C,←hes.1];simp
  have P:∀i,i<j.size→∃e,es[i]? = some e∧denP T e.key=some (Abs.entA j i).key∧(Abs.entA j i).born=e.born:=λi J=>by
   have r:i<es.length:=by rw[←AO C,←p];exact J
   obtain⟨v,e1,e2,_,e4⟩:=hes.2 i es[i] (ε r);have e5:Abs.entA j i=v:=υ ((Abs.entA_at J).symm.trans e1);exact⟨_,ε r,by rw[e5];exact e2,by rw[e5];exact e4⟩
  have l:j.toList.map (·.born)=es.map (·.born):=by
   refine p? λi=>?_;rw[v_,v_];by_cases J:i<j.size
   ·obtain⟨e,e1,_,e3⟩:=P i J;rw[e1,Abs.entA_at J];exact d_ some e3
   ·rw[p_ (by simpa using J),p_ (by rw[←AO C,←p];omega)];rfl
  have:=Abs.sortedS_calls lq.b lm.b j clock (λx hx=>?_) (by rw[l];exact ib a5) (λi=>kl.getD i (0,0)) (λi J=>?_) (by rw[p];exact R_ a8) (by rw[p];exact R_ a7) ks ?_ r w (hI.lt R) (r4 0 _ rfl) hb
  ·refine this.mono ?_;rintro e w' ⟨v,U,h2,h3⟩;exact⟨v,U,h2,ζ _,h3⟩
  ·have:x.born∈es.map (·.born):=by rw[←l];exact G? hx
   obtain⟨e,he,h⟩:=a_.1 this;rw[←h];exact R_ (G'.1 a6 e he)
  ·obtain⟨e,e1,e2,_⟩:=P i J;rw[V0 C i e e1]at e2;exact(υ e2).symm
  ·rw[p,Ta];exact(V? (ib a3) (ib a4)).2 λx=>⟨λh=>S_.1 (G'.1 a1 x h),λh=>S_.1 (G'.1 a2 x h)⟩
def WT:∀{l:List (Int×Int)},ain l=true→l.Pairwise λx y=>Abs.cmpS x y<0
 |[],_=>List.Pairwise.nil
 |[x],_=>q_.2 ⟨λ_ h=>(by cases h),List.Pairwise.nil⟩
 |x::y::l,h=>by
  simp[ain]at h;have g:=WT (l:=y::l) h.2;refine q_.2 ⟨λz f=>?_,g⟩;obtain rfl|f:=P'.1 f
  ·exact h.1
  ·exact IY h.1 ((q_.1 g).1 z f)
end Clo
namespace Clo
open Go Go.RowKit Tryz
def ksA:List Int:=[1048578,1048579,1048580,1048581,1048582,1048583,1048584,1048585,1048586]
def ae6:ksA.Pairwise λx y=>x<y:=by decide
def YI:List ME→Option (List Int)
 |[]=>some []
 |e::l=>match e.key,YI l with
  |.one (.int .i64 a),some r=>some (a::r)
  |_,_=>none
def agG (j:List Int)(g:List ME)(clock:Nat):Bool:=match YI g with
 |some f=>f.all (λx=>j.contains x)&&j.all (λx=>f.contains x)&&D5 f&&D5 (g.map (·.born))&&g.all (λe=>Nat.blt e.born clock)&&Nat.ble f.length 1048576
 |none=>false
def okZ (g:List Int)(b:HP)(args:List TV)(d:DM):Bool:=match args with
 |[.pv (.one (.clo k))]=>(match (HP.ov b d).get k with
  |.clo (.func f) [] [.one (.ptr q 0 0)]=>Nat.beq f 63&&(match (HP.ov b d).get q with
   |.row _ 1 _ _ _ _=>(match pI ((HP.ov b d).get q) 0 1 1 0 with
    |some [[.mp m]]=>(match (HP.ov b d).get m with
     |.map j clock=>agG g j clock
     |_=>false)
    |_=>false)
   |_=>false)
  |_=>false)
 |_=>false
def AP:∀{g:List ME} {f:List Int},YI g=some f→f.length=g.length
 |[],f,h=>by cases h;rfl
 |e::g,f,h=>by
  unfold YI at h;split at h
  next a r h1 h2=>cases h;simp[AP h2]
  ·cases h
def V5:∀{g:List ME} {f:List Int},YI g=some f→∀(i:Nat) (e:ME),g[i]? = some e→e.key = .one (.int .i64 (f.getD i 0))
 |[],f,h,i,e,he=>by simp at he
 |e0::g,f,h,i,e,he=>by
  unfold YI at h;split at h
  next a r h1 h2=>
   cases h;cases i with
   |zero=>simp at he;subst he;simpa using h1
   |succ i=>simpa using V5 h2 i e (by simpa using he)
  ·cases h
def S9 (f:List Int):(List.range f.length).map (λi=>f.getD i 0)=f:=by refine akv Ψ λi j g=>?_;simp[E',ε g]
def Yc [SymVal]{ks:List Int}(p:ks.Pairwise λx y=>x<y)(B:Nat)(W:W0)(T:Gx)(b:HP)(d:DM)(args:List TV)(vs:List Value)(w:World)(g:okZ ks b args d=true)(hI:Inv B W T (HP.ov b d).get w)(hr:RTs T args vs) :
  cj prog 30∧Calls prog 30 vs.toArray w λe w'=>∃v,e = .returned v∧Below w.heap.size w w'∧dz w≤dz w'∧w'.ownsRow w.heap.size 3 1 v ks.length (Abs.intsI ks):=by
 refine⟨⟨_,func30,rfl,Φ⟩, ?_⟩;unfold okZ at g;split at g;case h_2=>cases g
 rename_i k;split at g;case h_2=>cases g
 rename_i f q hk;rw[ι]at g;obtain⟨hf,g⟩:=g;obtain rfl:=κ hf;split at g;case h_2=>cases g
 rename_i e0 el0 len0 ab3 fz0 hq;split at g;case h_2=>cases g
 rename_i m hrow;split at g;case h_2=>cases g
 rename_i es clock hm;unfold agG at g;split at g;case h_2=>cases g
 rename_i kl C;simp only[ι]at g;obtain⟨⟨⟨⟨⟨a1,a2⟩,a3⟩,a5⟩,a6⟩,a7⟩:=g;match vs,hr with
 |[v1],⟨U,_⟩=>
  have U:den T (.clo k)=some v1:=U;have hoq:=hI.obj q;rw[hq]at hoq;obtain⟨_,_,_,_,hloc⟩:=hoq;obtain⟨lq,R,_,_⟩:=hloc 0 (i_ _);have g:=hI.obj k;rw[hk]at g;obtain⟨_,a,c,q1,q2,q3⟩:=g;obtain rfl:[]=a:=υ q1;have q2:(match den T (.ptr q 0 0),(some []:Option (List Value))with|some v,some vs=>some (v::vs)|_,_=>none)=some c:=q2;have hp:den T (.ptr q 0 0)=some (.pointer (some ⟨lq.b,0,none⟩)):=by simp only[den,R]
  rw[hp]at q2;obtain rfl:=υ q2;obtain rfl:Value.func (.func 63) #[] #[.pointer (some ⟨lq.b,0,none⟩)]=v1:=by simp only[den,q3]at U;exact υ U
  obtain⟨_,_,ds,r3,r4⟩:=hI.rds R hrow;obtain⟨u,rfl,hu⟩:=Ri (c :=.mp m) r3;have hom:=hI.obj m;rw[hm]at hom;obtain⟨_,lm,j,hlm,_,hb,hes⟩:=hom;have hu:some (Value.map (some lm.b))=some u:=by simpa only[den,hlm]using hu
  obtain rfl:=υ hu;have r:j.size=kl.length:=by rw[AP C,←hes.1];simp
  have P:∀i,i<j.size→∃e,es[i]? = some e∧denP T e.key=some (Abs.entA j i).key∧(Abs.entA j i).born=e.born:=λi J=>by
   have p:i<es.length:=by rw[←AP C,←r];exact J
   obtain⟨v,e1,e2,_,e4⟩:=hes.2 i es[i] (ε p);have e5:Abs.entA j i=v:=υ ((Abs.entA_at J).symm.trans e1);exact⟨_,ε p,by rw[e5];exact e2,by rw[e5];exact e4⟩
  have l:j.toList.map (·.born)=es.map (·.born):=by
   refine p? λi=>?_;rw[v_,v_];by_cases J:i<j.size
   ·obtain⟨e,e1,_,e3⟩:=P i J;rw[e1,Abs.entA_at J];exact d_ some e3
   ·rw[p_ (by simpa using J),p_ (by rw[←AP C,←r];omega)];rfl
  have:=Abs.sortedI_calls lq.b lm.b j clock (λx hx=>?_) (by rw[l];exact ib a5) (λi=>kl.getD i 0) (λi J=>?_) (by rw[r];exact R_ a7) ks ?_ p w (hI.lt R) (r4 0 _ rfl) hb
  ·refine this.mono ?_;rintro e w' ⟨v,U,h2,h3⟩;exact⟨v,U,h2,ζ _,h3⟩
  ·have:x.born∈es.map (·.born):=by rw[←l];exact G? hx
   obtain⟨e,he,h⟩:=a_.1 this;rw[←h];exact R_ (G'.1 a6 e he)
  ·obtain⟨e,e1,e2,_⟩:=P i J;rw[V5 C i e e1]at e2;exact(υ e2).symm
  ·rw[r,S9];exact(V? (ib a3) (p.imp λ{x y} h e=>Ω)).2 λx=>⟨λh=>S_.1 (G'.1 a1 x h),λh=>S_.1 (G'.1 a2 x h)⟩
def spA:List (Int×Int):=[(1048577,1),(1048577,2),(1048577,3),(1048578,1),(1048578,2),(1048578,3),(1048578,8),(1048578,9),(1048578,13),(1048579,1),(1048579,2),(1048579,3),(1048580,1),(1048580,2),(1048580,4),(1048580,8),(1048581,1),(1048581,2),(1048581,3),(1048581,8),(1048582,1),(1048582,2),(1048582,4),(1048582,8),(1048583,1),(1048583,2),(1048583,4),(1048583,8),(1048584,1),(1048584,2),(1048584,4),(1048584,8),(1048585,1),(1048585,2),(1048585,4),(1048585,8),(1048586,1),(1048586,2),(1048586,4),(1048586,8),(1048587,1),(1048587,2),(1048587,3)]
def ad6:spA.Pairwise λx y=>Abs.cmpS x y<0:=WT Φ
def XR (l:List Int):List (List CV):=l.map λx=>[.int .i64 x]
def rowS (l:List (Int×Int)):List (List CV):=l.map λx=>[.int .i64 x.1,.int .i64 x.2]
def aak:Tb:=Es 30 (okZ ksA) 3 1 (XR ksA) (Es 194 (okS spA) 246 2 (rowS spA) Tw)
def acG [SymVal](f:Gx):∀l:List Int,dens f (XR l).flatten=some (Abs.intsI l)
 |[]=>rfl
 |x::l=>by have:=acG f l;simp[XR]at this;simp[XR,Abs.intsI,dens,den,this]
def acF [SymVal](f:Gx):∀l:List (Int×Int),dens f (rowS l).flatten=some (Abs.flS l)
 |[]=>rfl
 |x::l=>by have:=acF f l;simp[rowS]at this;simp[rowS,Abs.flS,Abs.celS,dens,den,this]
def aaj [SymVal]{J:Glt}:zd prog J aak:=by
 have k:∀{l:List Int},∀a∈XR l,a.length=1:=λa j=>by obtain⟨x,_,rfl⟩:=a_.1 j;rfl
 refine FW Ϛ k (by simp[XR,ksA]) Ϛ (λf=>acG f _) (λB W f b d args g w C r p=>?_) (FW Ϛ (λa j=>by obtain⟨x,_,rfl⟩:=a_.1 j;rfl) (by simp[rowS,spA]) Ϛ (λf=>acF f _) (λB W f b d args g w C r p=>?_) gw)
 ·exact Yc ae6 B W f b d args g w C r p
 ·exact Yd ad6 B W f b d args g w C r p
def psF (f:Nat):Nat→Pos:=Nat.rec (motive:=λ_=>Nat→Pos) (λ_=>.e) (λ_ g n=>Nat.rec (motive:=λ_=>Pos) .e (λm _=>Bool.rec (motive:=λ_=>Pos) (.i (g (Nat.div m 2))) (.o (g (Nat.div m 2))) (Nat.beq (Nat.mod m 2) 0)) n) f
def ps (n:Nat):Pos:=psF 40 n
def Y:DM :=.leaf
def Z:PT Ch :=.leaf
end Clo
