/- Parts. -/
import Derived.Test.YtfgpipfjalmooaaGreatFlF
import Derived.Test.YtfgpipfjalmooaaGreatMkB
set_option linter.all false
noncomputable section
namespace Go.Proofs.YtfgpipfjalmooaaGreat
namespace Abs
open Go Go.Proofs Go.RowKit Go.Maps Go.Shelf Tryz
def ajD (w:World)(B b f:Nat)(x:PF):Prop :=
 ∃pv j g,w.cell? ⟨b,f,none⟩=some (.int .i64 x.c.st)∧w.cell? ⟨b,f+1,none⟩=some pv∧w.cell? ⟨b,f+2,none⟩=some j∧w.cell? ⟨b,f+3,none⟩=some (.string x.c.nt)∧w.cell? ⟨b,f+4,none⟩=some g∧w.cell? ⟨b,f+5,none⟩=some (.int .i64 x.left)∧nZ w B x.c pv j g
def agO (w:World)(B:Nat)(A:Option Addr)(ps:List PF):Prop:=0<ps.length→∃b f,A=some ⟨b,f,none⟩∧b<B∧∀k (h:k<ps.length),ajD w B b (f+k*6) ps[k]
def kR (f:List CF)(x:PF):PF:=match kE f x.c.st with
 |some c=>⟨c,0⟩
 |none=>x
def jr (f:List CF)(x:PF):Bool:=match kE f x.c.st with
 |some c=>jy x c
 |none=>true
variable{w:World}{cs:List CF}{c:tCommit.den}{St:Sb}{p:ao.den}{vs:List Value}{l:List tCommit.den}
def Lt {j:World}{g:Array Oper}{rest:List Oper}{o:Oper}{a:Act}{Q:Exit→Act→World→Prop}(hg:o.guard=none)(m x v:Operand)(p:o.op=Op.mapUpdate 82 m x v)(b:Nat){B:Nat}(U:a.eval m = .map (some b))(T:xz j B w b cs)(c:CF)(hc:kE cs c.st=none)(pv J C:Value)(l:nZ j B c pv J C)(P:a.eval x = .int .i64 c.st)(R:a.eval v = .agg #[.int .i64 c.st,pv,J,.string c.nt,C])
  (hK:∀f,xz j B f b (cs++[c])→w.grownBy f (some b)→wpList prog g Q rest (a.put o.dst undef) f):wpList prog g Q (o::rest) a w :=
 aky hg λ_ r=>by obtain⟨f,l,h1,h2⟩:=aiF T hc l;unfold Oper.wp execOp;simp[p,U,P,R,l,Result.andThen];exact r _ _ (hK f h1 h2)
def FiL (w:World)(f g:Value)(cs:List CF)(i:Value)(W:World):Prop :=
 ∃k:Nat,k≤cs.length∧i = .int .i64 k∧w.grownBy W none∧w.heap.size+3≤W.heap.size∧W.heap[w.heap.size]? = some (.cells #[f,g] 31 (0,0))∧W.heap[w.heap.size+1]? = some (.cells #[.slice none 0 0,.slice none 0 0] 31 (0,0))∧xz w w.heap.size W (w.heap.size+2) (cs.take k)
def FiM (w:World)(B f:Nat)(cs:List CF)(g:Value)(j:List Int)(ps:List PF)(i:Value)(W:World):Prop :=
 ∃k:Nat,k≤ps.length∧i = .int .i64 k∧(∀x∈ps.take k,jr cs x=true)∧∃T pv vs,FiS w W B f T cs g pv j ((ps.take k).map (kR cs)) vs
def Y6 {k:Int}{c:CF}(h:kE cs k=some c):c∈cs∧c.st=k:=⟨alf h,by simpa using List.find?_some h⟩
set_option maxRecDepth 100000 in
set_option maxHeartbeats 3200000 in
def Y7 (cs:List CF)(ps:List PF)(ws:List Int)(hws:ws.length≤1048576)(hcn:cs.length≤1048576)(hpn:ps.length≤1048576)(hlc:∀c∈cs,ZM c)(hlp:∀x∈ps,ZM x.c)(w:World)(A A2:Option Addr)(cap cap2:Nat)(cw:Value)(hcs:agR w w.heap.size A cs)(hps:agO w w.heap.size A2 ps)(hcw:iX w w.heap.size cw ws.length (intsI ws)) :
  Calls prog 20 #[.agg #[cw,.slice A2 ps.length cap2],.slice A cs.length cap] w λe w'=>Below w.heap.size w w' ∧
   ((ps.all (jr cs)=true∧∃wv pv vs,e = .returned (.tuple #[.agg #[wv,pv],.int .i64 0])∧w'.ownsRow w.heap.size 3 1 wv ws.length (intsI ws)∧w'.ownsRow w.heap.size 54 6 pv ps.length vs.flatten∧fG w' w.heap.size w'.heap.size (ps.map (kR cs)) vs) ∨
    (ps.all (jr cs)=false∧e = .returned (.tuple #[.agg #[.slice none 0 0,.slice none 0 0],.int .i64 8]))):=by
 obtain⟨A1,c1,rfl,x1⟩:=id hcw;clear x1;have hmm:=@run_makeMap prog
 go_enter func20,ntmps20
 go_upto_region 2 with fail
 have hL:FiL w (.slice A1 ws.length c1) (.slice A2 ps.length cap2) cs (.int .i64 (0:Nat)) (((w.alloc (.cells #[.slice A1 ws.length c1,.slice A2 ps.length cap2] 31)).alloc (.cells #[.slice none 0 0,.slice none 0 0] 31)).alloc (.map #[] 0)):=by
  refine⟨0,i_ _,rfl,((C' w _ none).trans (C' _ _ none)).trans (C' _ _ none),Ψ, ?_, ?_, ?_⟩
  ·exact(Below.heap_alloc _ _ _ Ξ).trans ((Below.heap_alloc _ _ _ Ψ).trans (World.alloc_heap_new w _))
  ·have:=World.alloc_heap_new (w.alloc (.cells #[.slice A1 ws.length c1,.slice A2 ps.length cap2] 31)) (.cells #[.slice none 0 0,.slice none 0 0] 31);rw[P_]at this;exact(Below.heap_alloc _ _ _ Ψ).trans this
  ·have:=xz.new w ((w.alloc (.cells #[.slice A1 ws.length c1,.slice A2 ps.length cap2] 31)).alloc (.cells #[.slice none 0 0,.slice none 0 0] 31)) w.heap.size;rw[P_,P_]at this;exact this
 generalize ((w.alloc (.cells #[.slice A1 ws.length c1,.slice A2 ps.length cap2] 31)).alloc (.cells #[.slice none 0 0,.slice none 0 0] 31)).alloc (.map #[] 0)=W0 at hL⊢;clear hmm
 go_wp2
 go_loopw [19] (λi wr=>FiL w (.slice A1 ws.length c1) (.slice A2 ps.length cap2) cs i wr) (λi _=>cs.length-(Go.RowKit.intOf i).toNat)
 case atStart=>exact hL
 case round=>
  clear hL;obtain⟨k,hk,rfl,hg,hsz,hcb,hres,hhas⟩:=hrel;by_cases hlt:k<cs.length
  ·obtain⟨b,off,rfl,hbl,hcell⟩:=hcs Ω;obtain⟨pv0,qv0,wv0,q0,q1,q2,q3,q4,hsp,hsq,hsw⟩:=hcell k hlt;have hR:nZ w w.heap.size cs[k] pv0 qv0 wv0:=⟨hsp,hsq,hsw⟩;have tr:∀o v,w.cell? ⟨b,o,none⟩=some v→wr.cell? ⟨b,o,none⟩=some v:=λo v h=>((bq hg).cell (p:=⟨b,o,none⟩) hbl).trans h;have q0:=tr _ _ q0;have q1:=tr _ _ q1;have q2:=tr _ _ q2;have q3:=tr _ _ q3;have q4:=tr _ _ q4;obtain⟨A1',c1',rfl, -⟩:=hsp;obtain⟨A2',c2',rfl, -⟩:=hsq;obtain⟨A3',c3',rfl, -⟩:=hsw;clear hcell tr
   go_upto_region 5 with fail
   have hgX:=C' wr (.cells #[.int .i64 cs[k].st,.slice A1' cs[k].ps.length c1',.slice A2' cs[k].qs.length c2',.string cs[k].nt,.slice A3' cs[k].wl.length c3'] 38) none;have hX8:=World.alloc_heap_new wr (.cells #[.int .i64 cs[k].st,.slice A1' cs[k].ps.length c1',.slice A2' cs[k].qs.length c2',.string cs[k].nt,.slice A3' cs[k].wl.length c3'] 38);generalize wr.alloc (.cells #[.int .i64 cs[k].st,.slice A1' cs[k].ps.length c1',.slice A2' cs[k].qs.length c2',.string cs[k].nt,.slice A3' cs[k].wl.length c3'] 38)=X at hgX hX8⊢;have hgw:=hg.trans hgX;have hszX:=Δ hsz hgX.size;have hcbX:=(hgX.block _ Ω Ψ).trans hcb;have hresX:=(hgX.block _ Ω Ψ).trans hres;have hhasX:=hhas.kept hgX Ψ;have k0:=(ae hX8 0 rfl).1;clear q0 q1 q2 q3 q4 hcb hres hhas hgX hg;rcases abz hhasX cs[k].st with⟨d,p1,p2,p3,hfd,⟨⟨B1,e1,rfl, -⟩,⟨B2,e2,rfl, -⟩,⟨B3,e3,rfl, -⟩⟩,hlk⟩|⟨hfd,hlk⟩
   ·go_wp2
    go_roundw
    case rel =>have C:=C' X (.cells #[.int .i64 d.st,.slice B1 d.ps.length e1,.slice B2 d.qs.length e2,.string d.nt,.slice B3 d.wl.length e3] 38) none;refine⟨k+1,hlt,Ψ,hgw.trans C,Δ hszX C.size,(C.block _ Ω Ψ).trans hcbX,(C.block _ Ω Ψ).trans hresX, ?_⟩;rw[J' hlt];exact(hhasX.kept C Ψ).skip hfd
    case measure=>simp[Go.RowKit.intOf];omega
   ·have C:=C' X (.cells #[.int .i64 0,.slice none 0 0,.slice none 0 0,.string { data :=#[] },.slice none 0 0] 38) none;have hX9:=(C.block _ (δ.1 hX8).1 Ψ).trans hX8;have l0:=(ae hX9 0 rfl).1;have l1:=(ae hX9 1 rfl).1;have l2:=(ae hX9 2 rfl).1;have l3:=(ae hX9 3 rfl).1;have l4:=(ae hX9 4 rfl).1;have hhY:=hhasX.kept C Ψ
    go_upto_region 8 with(first
     |(at_mapUpdate;refine Lt rfl _ _ _ rfl (w.heap.size+2) rfl hhY cs[k] hfd _ _ _ hR rfl rfl ?_;intro Z hhZ hgZ)
     |go_in)
    have hgZ':=CJ (hgw.trans C) hgZ Ω;have hsY:=C.size
    go_wp2
    go_roundw
    case rel =>refine⟨k+1,hlt,Ψ,hgZ',Δ hszX (Δ hsY hgZ.size),(hgZ.block _ Ω (λe=>by injection e with e;omega)).trans ((C.block _ Ω Ψ).trans hcbX),(hgZ.block _ Ω (λe=>by injection e with e;omega)).trans ((C.block _ Ω Ψ).trans hresX), ?_⟩;rw[J' hlt];exact hhZ
    case measure=>simp[Go.RowKit.intOf];omega
  ·obtain rfl:k=cs.length:=Ω
   rw[z_]at hhas;have z0:=(ae hcb 0 rfl).1;have hwsl:=(hcw.keep (bq hg)).mono hg.size;generalize wr=V at *
   go_upto_region 10 with(first
    |(go_at_call 35;refine(tu ws hws V _ hwsl).mono ?_;rintro e V2 ⟨v2,rfl,hr2,hg2⟩
      obtain⟨B2,d2,rfl⟩:=bP hr2)
    |go_in)
   have hM0:FiM w V.heap.size V2.heap.size cs (.slice B2 ws.length d2) ws ps (.int .i64 (0:Nat)) (V2.alloc (.cells #[.slice B2 ws.length d2,.slice none 0 0] 31)):=by
    have g3:=hg2.trans (C' V2 (.cells #[.slice B2 ws.length d2,.slice none 0 0] 31) none);refine⟨0,i_ _,rfl,λx hx=>(by simp at hx),V2.heap.size+1,_,[],(bq hg).grown g3 hg.size (λr e=>by cases e),(g3.block _ Ω Ψ).trans hres,hhas.kept g3 Ψ,hsz,⟨hg2.size,ak3 _,Ψ⟩,World.alloc_heap_new _ _,dq hr2 (C' _ _ none),⟨rfl,.inl ⟨rfl,rfl⟩⟩,λg e=>Nat.lt_succ_of_lt (by
     obtain⟨_,cur,h⟩:=sx hr2 e;exact(δ.1 h).1),λg e=>(by cases e),aoG⟩
   have hcb2:=((hg2.trans (C' V2 (.cells #[.slice B2 ws.length d2,.slice none 0 0] 31) none)).block w.heap.size Ω Ψ).trans hcb;have hVw:=hg.size;generalize hb11:V2.heap.size=b11 at hM0⊢;generalize V2.alloc (.cells #[.slice B2 ws.length d2,.slice none 0 0] 31)=V3 at hM0 hcb2⊢;generalize V.heap.size=B at hM0 hsz hVw;clear hcb hres hhas hg2 hr2 hwsl z0 hg hb11;have z1:=(ae hcb2 1 rfl).1
   go_wp2
   clear z1 hcb2
   go_loopw [44] (λi wr=>FiM w B b11 cs (.slice B2 ws.length d2) ws ps i wr) (λi _=>ps.length-(Go.RowKit.intOf i).toNat)
   case atStart=>exact hM0
   case round=>
    clear hM0;obtain⟨k,hk,rfl,hok,T,pv,vs,hM⟩:=hrel;by_cases hlt:k<ps.length
    ·obtain⟨b,off,rfl,hbl,hcell⟩:=hps Ω;obtain⟨pv0,qv0,wv0,q0,q1,q2,q3,q4,q5,hR⟩:=hcell k hlt;have tr:∀o v,w.cell? ⟨b,o,none⟩=some v→wr.cell? ⟨b,o,none⟩=some v:=λo v h=>(hM.below.cell (p:=⟨b,o,none⟩) hbl).trans h;have q0:=tr _ _ q0;have q1:=tr _ _ q1;have q2:=tr _ _ q2;have q3:=tr _ _ q3;have q4:=tr _ _ q4;have q5:=tr _ _ q5;obtain⟨⟨C1,f1,rfl, -⟩,⟨C2,f2,rfl, -⟩,⟨C3,f3,rfl, -⟩⟩:=id hR;clear hcell tr
     go_upto_region 13 with fail
     have hgX:=C' wr (.cells #[.int .i64 ps[k].c.st,.slice C1 ps[k].c.ps.length f1,.slice C2 ps[k].c.qs.length f2,.string ps[k].c.nt,.slice C3 ps[k].c.wl.length f3,.int .i64 ps[k].left] 54) none;have hX:=World.alloc_heap_new wr (.cells #[.int .i64 ps[k].c.st,.slice C1 ps[k].c.ps.length f1,.slice C2 ps[k].c.qs.length f2,.string ps[k].c.nt,.slice C3 ps[k].c.wl.length f3,.int .i64 ps[k].left] 54);have hXs:(wr.alloc (.cells #[.int .i64 ps[k].c.st,.slice C1 ps[k].c.ps.length f1,.slice C2 ps[k].c.qs.length f2,.string ps[k].c.nt,.slice C3 ps[k].c.wl.length f3,.int .i64 ps[k].left] 54)).heap.size=wr.heap.size+1:=by simp
     generalize wr.alloc (.cells #[.int .i64 ps[k].c.st,.slice C1 ps[k].c.ps.length f1,.slice C2 ps[k].c.qs.length f2,.string ps[k].c.nt,.slice C3 ps[k].c.wl.length f3,.int .i64 ps[k].left] 54)=X at hgX hX hXs⊢;have hMX:=(hM.mono hM.top.2.2 (ζ _)).quiet hgX;have hTb:=hM.top;clear q0 q1 q2 q3 q4 q5 hM hgX;generalize wr.heap.size=l at hX hXs hMX hTb⊢;have k0:=(ae hX 0 rfl).1;have hlp0:=hlp _ (w_ hlt);rcases abz hMX.has ps[k].c.st with⟨d,p1,p2,p3,hfd,hRd,hlk⟩|⟨hfd,hlk⟩
     ·obtain⟨⟨D1,g1,rfl, -⟩,⟨D2,g2,rfl, -⟩,⟨D3,g3,rfl, -⟩⟩:=id hRd;obtain⟨hdm, -⟩:=Y6 hfd
      go_upto_region 14 with fail
      have C:=C' X (.cells #[.int .i64 d.st,.slice D1 d.ps.length g1,.slice D2 d.qs.length g2,.string d.nt,.slice D3 d.wl.length g3] 38) none;have hY:=(C.block _ (δ.1 hX).1 Ψ).trans hX;have hD:=World.alloc_heap_new X (.cells #[.int .i64 d.st,.slice D1 d.ps.length g1,.slice D2 d.qs.length g2,.string d.nt,.slice D3 d.wl.length g3] 38);have J:=hMX.quiet C;have hcm:=Rq ps[k] d hlp0 (hlc _ hdm) (X.alloc (.cells #[.int .i64 d.st,.slice D1 d.ps.length g1,.slice D2 d.qs.length g2,.string d.nt,.slice D3 d.wl.length g3] 38)) _ _ _ _ _ _ ((hR.keep J.below).mono J.below.size) ((hRd.keep J.below).mono J.below.size);rw[hXs]at hD;generalize X.alloc (.cells #[.int .i64 d.st,.slice D1 d.ps.length g1,.slice D2 d.qs.length g2,.string d.nt,.slice D3 d.wl.length g3] 38)=Y at C hY J hD hcm⊢;clear C hMX hX k0 hlk;have k0:=(ae hY 0 rfl).1;have k1:=(ae hY 1 rfl).1;have k2:=(ae hY 2 rfl).1;have k3:=(ae hY 3 rfl).1;have k4:=(ae hY 4 rfl).1;have k5:=(ae hY 5 rfl).1;have l0:=(ae hD 0 rfl).1;have l1:=(ae hD 1 rfl).1;have l2:=(ae hD 2 rfl).1;have l3:=(ae hD 3 rfl).1;have l4:=(ae hD 4 rfl).1;have hokk:jr cs ps[k]=jy ps[k] d:=by unfold jr;rw[hfd]
      have hfx:kR cs ps[k]=⟨d,0⟩:=by unfold kR;rw[hfd]
      have hokA:Aside (jr cs ps[k]=jy ps[k] d):=hokk;have hfxA:Aside (kR cs ps[k]=⟨d,0⟩):=hfx;clear hokk hfx;cases hb:jy ps[k] d with
      |false=>
       rw[hb]at hcm
       go_upto_region 15 with(first
        |(go_at_call 44;refine hcm.mono ?_;rintro e Y2 ⟨rfl,hgc⟩)
        |go_in)
       have R:=J.quiet hgc;have o0:=(ae R.res 0 rfl).1;have o1:=(ae R.res 1 rfl).1;have p0:=(ae R.res 0 rfl).2;have p1:=(ae R.res 1 rfl).2
       go_wp2
       obtain⟨hE,hgE⟩:=Vj (v0 :=.slice none 0 0) (v1 :=.slice none 0 0) R.res;refine alp (qD rfl _ _ (w.heap.size+1) _ _ _ _ rfl hE underlying31 rfl Φ) rfl ?_;exact⟨R.below.grown hgE R.below.size λr e=>(by injection e with e;omega),.inr ⟨akW.2 ⟨ps[k],w_ hlt,by rw[hokA.out,hb];simp⟩,rfl⟩⟩
      |true=>
       rw[hb]at hcm
       go_upto_region 17 with(first
        |(go_at_call 44;refine hcm.mono ?_;rintro e Y2 ⟨rfl,hgc⟩)
        |go_in)
       have R:=J.quiet hgc;have hY2:=(hgc.block _ (δ.1 hY).1 Ψ).trans hY;have hD2:=(hgc.block _ (δ.1 hD).1 Ψ).trans hD;clear k0 k1 k2 k3 k4 k5 l0 l1 l2 l3 l4 J hY hD hcm hgc;have l0:=(ae hD2 0 rfl).1;have l1:=(ae hD2 1 rfl).1;have l2:=(ae hD2 2 rfl).1;have l3:=(ae hD2 3 rfl).1;have l4:=(ae hD2 4 rfl).1;have k0:=(ae hY2 0 rfl).1;have k1:=(ae hY2 1 rfl).1;have k2:=(ae hY2 2 rfl).1;have k3:=(ae hY2 3 rfl).1;have k4:=(ae hY2 4 rfl).1;have k5:=(ae hY2 5 rfl).1;have m0:=(ae hY2 0 rfl).2;have m1:=(ae hY2 1 rfl).2;have m2:=(ae hY2 2 rfl).2;have m3:=(ae hY2 3 rfl).2;have m4:=(ae hY2 4 rfl).2;have m5:=(ae hY2 5 rfl).2
       go_upto_region 18 with fail
       obtain⟨hY,hgE⟩:=aeb (v0 :=.int .i64 d.st) (v1 :=.slice D1 d.ps.length g1) (v2 :=.slice D2 d.qs.length g2) (v3 :=.string d.nt) (v4 :=.slice D3 d.wl.length g3) (v5 :=.int .i64 0) hY2;have J:=R.old hgE λr e=>(by injection e with e;omega);have hys:l<(((((((Y2.setCell ⟨l,0,none⟩ (.int .i64 d.st)).setCell ⟨l,1,none⟩ (.slice D1 d.ps.length g1)).setCell ⟨l,2,none⟩ (.slice D2 d.qs.length g2)).setCell ⟨l,3,none⟩ (.string d.nt)).setCell ⟨l,4,none⟩ (.slice D3 d.wl.length g3)).setCell ⟨l,5,none⟩ (.int .i64 0))).heap.size:=(δ.1 hY).1;clear l0 l1 l2 l3 l4 k0 k1 k2 k3 k4 k5 m0 m1 m2 m3 m4 m5 hY2 hD2 R hgE;generalize (((((Y2.setCell ⟨l,0,none⟩ (.int .i64 d.st)).setCell ⟨l,1,none⟩ (.slice D1 d.ps.length g1)).setCell ⟨l,2,none⟩ (.slice D2 d.qs.length g2)).setCell ⟨l,3,none⟩ (.string d.nt)).setCell ⟨l,4,none⟩ (.slice D3 d.wl.length g3)).setCell ⟨l,5,none⟩ (.int .i64 0)=Y at hY J hys⊢;have hfx:=hfxA.out;have hokk:=hokA.out.trans hb;have hlp0:=hlc d hdm;have hR:=hRd;clear hfxA hokA hRd hfd hXs;obtain⟨y,hy⟩:∃y:PF,y=⟨d,0⟩:=⟨_,rfl⟩;rw[←hy]at hfx;have hyc:d=y.c:=by rw[hy]
       have hyl:(Value.int .i64 0) = .int .i64 (y.left:Int):=by rw[hy];rfl
       rw[hyl]at hY;clear hyl hy;subst hyc;obtain⟨VP,vp,hvp⟩:=bP J.parts;have hlk:((ps.take k).map (kR cs)).length=k:=by rw[b_,g_];omega
       rw[hlk]at hvp;rw[hvp]at J;have hS:S18 b11 l (.slice B2 ws.length d2) (.slice VP k vp) (.slice D1 y.c.ps.length g1) (.slice D2 y.c.qs.length g2) (.slice D3 y.c.wl.length g3) y Y:=⟨J.box,hY⟩;have hcop:=λ(Z:World) (h:Below w.heap.size w Z)=>tm y.c.st _ _ _ y.c.nt y.c.ps y.c.qs y.c.wl Z hlp0.1 hlp0.2.1 hlp0.2.2 (((hR.keep h).mono h.size).1) (((hR.keep h).mono h.size).2.1) (((hR.keep h).mono h.size).2.2);have hdr:Y.grownBy Y.drew none:=⟨rfl,rfl,rfl,ζ _,λ_ _ _=>rfl⟩;have R:=J.quiet hdr;have hSZ:=hS.kept hdr Ψ Ψ;clear J hS hY;refine wp_region_noPanic ?_;refine tS (S:=S18 b11 l (.slice B2 ws.length d2) (.slice VP k vp) (.slice D1 y.c.ps.length g1) (.slice D2 y.c.qs.length g2) (.slice D3 y.c.wl.length g3) y) Φ Φ [0,1,2,3,5,6] 6 Φ Φ (λ_ _ _ _ _ h=>h) hSZ ?_;refine cO (.pointer (some ⟨b11,1,none⟩)) rfl rfl (λw' hh=>by clear hh;go_simp) ?_;refine cO (.slice VP k vp) rfl rfl (λw' hh=>by have c:=(ae hh.c 1 rfl).1;clear hh;go_simp) ?_;refine cO (.pointer (some ⟨l,0,none⟩)) rfl rfl (λw' hh=>by clear hh;go_simp) ?_;refine cO (.agg #[.int .i64 y.c.st,.slice D1 y.c.ps.length g1,.slice D2 y.c.qs.length g2,.string y.c.nt,.slice D3 y.c.wl.length g3]) rfl rfl (λw' hh=>by
        have e0:=(ae hh.b 0 rfl).1;have e1:=(ae hh.b 1 rfl).1;have e2:=(ae hh.b 2 rfl).1;have e3:=(ae hh.b 3 rfl).1;have e4:=(ae hh.b 4 rfl).1;clear hh
        go_simp) ?_
       refine cO (.pointer (some ⟨l,5,none⟩)) rfl rfl (λw' hh=>by clear hh;go_simp) ?_;refine cO (.int .i64 y.left) rfl rfl (λw' hh=>by have c:=(ae hh.b 5 rfl).1;clear hh;go_simp) ?_;simp only[Fp];generalize Y.drew=Z0 at *;clear hdr;refine dV (i:=4) Φ (E5 (f:=38) (args :=#[.agg #[.int .i64 y.c.st,.slice D1 y.c.ps.length g1,.slice D2 y.c.qs.length g2,.string y.c.nt,.slice D3 y.c.wl.length g3]]) rfl rfl (by go_simp) ((hcop Z0 R.below).mono ?_));rintro e Z1 ⟨p,q,r,rfl,hg1,hrp,hrq,hrr⟩;obtain⟨P1,h1,rfl⟩:=bP hrp;obtain⟨P2,h2,rfl⟩:=bP hrq;obtain⟨P3,h3,rfl⟩:=bP hrr;have hS1:=hSZ.kept hg1 Ψ Ψ;refine⟨_,rfl,λ_=>hS1, ?_⟩;refine dV (i:=7) Φ (jM (v :=.agg #[.int .i64 y.c.st,.slice P1 y.c.ps.length h1,.slice P2 y.c.qs.length h2,.string y.c.nt,.slice P3 y.c.wl.length h3,.int .i64 y.left]) (w':=Z1) rfl rfl (by go_simp) ⟨λ_=>hS1, ?_⟩);have hgA:=C' Z1 (.cells #[.int .i64 y.c.st,.slice P1 y.c.ps.length h1,.slice P2 y.c.qs.length h2,.string y.c.nt,.slice P3 y.c.wl.length h3,.int .i64 y.left] 54) none;have harr:=World.alloc_heap_new Z1 (.cells #[.int .i64 y.c.st,.slice P1 y.c.ps.length h1,.slice P2 y.c.qs.length h2,.string y.c.nt,.slice P3 y.c.wl.length h3,.int .i64 y.left] 54);have hS2:=hS1.kept hgA Ψ Ψ;refine dV (i:=8) Φ (jM (v :=.slice (some ⟨Z1.heap.size,0,none⟩) 1 1) (w':=Z1.alloc (.cells #[.int .i64 y.c.st,.slice P1 y.c.ps.length h1,.slice P2 y.c.qs.length h2,.string y.c.nt,.slice P3 y.c.wl.length h3,.int .i64 y.left] 54)) rfl rfl (by go_simp) ⟨λ_=>hS2, ?_⟩);have hM2:=(R.quiet hg1).quiet hgA;generalize hZ2:Z1.alloc (.cells #[.int .i64 y.c.st,.slice P1 y.c.ps.length h1,.slice P2 y.c.qs.length h2,.string y.c.nt,.slice P3 y.c.wl.length h3,.int .i64 y.left] 54)=Z2 at hgA harr hS2 hM2⊢;obtain⟨i0,hi0,hz0,hz1,hz2⟩:=info_parts agC;have hnew:∀j v,([.int .i64 y.c.st,.slice P1 y.c.ps.length h1,.slice P2 y.c.qs.length h2,.string y.c.nt,.slice P3 y.c.wl.length h3,.int .i64 y.left]:List Value)[j]? = some v→Z2.cell? (Addr.add ⟨Z1.heap.size,0,none⟩ j)=some v:=λj v hj=>by
        have:([.int .i64 y.c.st,.slice P1 y.c.ps.length h1,.slice P2 y.c.qs.length h2,.string y.c.nt,.slice P3 y.c.wl.length h3,.int .i64 y.left]:List Value).toArray[j]? = some v:=by rw[z?];exact hj
        rw[Addr.add_mid,WJ harr,Q'];exact this
       have hone:∀v∈([.int .i64 y.c.st,.slice P1 y.c.ps.length h1,.slice P2 y.c.qs.length h2,.string y.c.nt,.slice P3 y.c.wl.length h3,.int .i64 y.left]:List Value),v.oneCell'=true:=λv hv=>by simp only[P',List.not_mem_nil,or_false]at hv;obtain rfl|rfl|rfl|rfl|rfl|rfl:=hv <;> rfl
       have U:=hM2.parts;rw[hlk]at U;have hBZ:=hM2.top;have hBle:B≤Z2.heap.size:=Ω
       have hk1:k+1≤maxLen:=by unfold maxLen;omega
       have hk2:(k+1)*104≤140737488355328:=Ω
       obtain⟨v',Z3,r2,hp2,hg3,hown,_,_⟩:=b8 (P:=prog) (B:={ b:=B }) Z2 29 29 54 i0 (.agg #[.int .i64 0,.slice none 0 0,.slice none 0 0,.string ByteArray.empty,.slice none 0 0,.int .i64 0]) 6 104 Z8 hi0 hz0 hz1 hz2 rfl Ϛ (.slice VP k vp) k vs.flatten U (some ⟨Z1.heap.size,0,none⟩) 1 1 [.int .i64 y.c.st,.slice P1 y.c.ps.length h1,.slice P2 y.c.qs.length h2,.string y.c.nt,.slice P3 y.c.wl.length h3,.int .i64 y.left] rfl (.inr ⟨_,rfl,hnew⟩) hone hk1 hk2 hBle;have hPart:cN Z2 B Z2.heap.size y [.int .i64 y.c.st,.slice P1 y.c.ps.length h1,.slice P2 y.c.qs.length h2,.string y.c.nt,.slice P3 y.c.wl.length h3,.int .i64 y.left]:=by
        have b0:=R.top;have u1:=dq (iM hrp (show B≤Z0.heap.size by omega)) hgA;have u2:=dq (iM hrq (show B≤Z0.heap.size by omega)) hgA;have u3:=dq (iM hrr (show B≤Z0.heap.size by omega)) hgA;have lt:∀{e size n:Nat} {u:Value} {xs:List Value},Z2.ownsRow B e size u n xs→∀g,u.ownBlock=some g→g<Z2.heap.size:=λhu g e=>by obtain⟨_,cur,h3⟩:=sx hu e;exact(δ.1 h3).1
        exact⟨_,_,_,rfl,u1,u2,u3,λg hg=>by
         obtain hg|hg|hg:=hg
         ·exact lt u1 g hg
         ·exact lt u2 g hg
         ·exact lt u3 g hg⟩
       have hM3:=hM2.done hg3 hPart (pv':=v') (by rw[hlk];exact hp2) hown;obtain⟨V1,v1,rfl⟩:=bP hp2;have hS3:S18 b11 l (.slice B2 ws.length d2) (.slice VP k vp) (.slice D1 y.c.ps.length g1) (.slice D2 y.c.qs.length g2) (.slice D3 y.c.wl.length g3) y Z3:=by
        have hbn:b11<l:=hM2.top.2.1;refine hS2.kept hg3 (λe=>?_) λe=>?_
        ·obtain⟨_,cur,h⟩:=sx hM2.parts e.symm;rw[hM2.box]at h;cases h
        ·have:=hM2.plt _ e.symm;omega
       refine dV (i:=9) Φ (jM (v :=.slice V1 (k+1) v1) (w':=Z3) rfl rfl (xL (s :=.tmp 68) (x :=.tmp 75) (t:=29) (u :=.slice VP k vp) (y :=.slice (some ⟨Z1.heap.size,0,none⟩) 1 1) rfl (by go_simp) (by go_simp) r2) ⟨λ_=>hS3, ?_⟩);refine dV (i:=10) Φ (jM (v :=.pointer (some ⟨b11,1,none⟩)) (w':=Z3) rfl rfl (by go_simp) ⟨λ_=>hS3, ?_⟩);have sc:=(ae hS3.c 1 rfl).1;have sf:=(ae hS3.c 1 rfl).2;refine dV (i:=11) Φ (Jd (w':=Z3.setCell ⟨b11,1,none⟩ (.slice V1 (k+1) v1)) rfl rfl (by go_simp) ⟨λh=>(by
        rw[show Kf .any _ [0,1,2,3,5,6] 11=true by kernel_rfl]at h;cases h),Ke Φ (NoPanic.normal ?_)⟩)
       have hfin:FiM w B b11 cs (.slice B2 ws.length d2) ws ps (.int .i64 ((k+1:Nat):Int)) (Z3.setCell ⟨b11,1,none⟩ (.slice V1 (k+1) v1)):=by
        have e:(ps.take k).map (kR cs)++[y]=(ps.take (k+1)).map (kR cs):=by rw[J' hlt,M_,←hfx];rfl
        rw[e]at hM3;refine⟨k+1,hlt,rfl,λx hx=>?_,_,_,_,hM3⟩;rw[J' hlt]at hx;obtain hx|hx:=π.1 hx
        ·exact hok x hx
        ·rw[ξ.1 hx];exact hokk
       clear hM3 hS3 sc sf hg3 hown hp2 r2 U hnew hone hPart hM2 hS2 harr hgA R hSZ hcop hS1 hrp hrq hrr
       go_wp2
       go_roundw
       case rel=>simpa using hfin
       case measure=>simp[Go.RowKit.intOf];omega
     ·go_upto_region 18 with fail
      have C:=C' X (.cells #[.int .i64 0,.slice none 0 0,.slice none 0 0,.string { data :=#[] },.slice none 0 0] 38) none;have hY:=(C.block _ (δ.1 hX).1 Ψ).trans hX;have J:=hMX.quiet C;have hys:l<(X.alloc (.cells #[.int .i64 0,.slice none 0 0,.slice none 0 0,.string { data :=#[] },.slice none 0 0] 38)).heap.size:=(δ.1 hY).1;generalize X.alloc (.cells #[.int .i64 0,.slice none 0 0,.slice none 0 0,.string { data :=#[] },.slice none 0 0] 38)=Y at C hY J hys⊢;obtain⟨y,hy⟩:∃y,y=ps[k]:=⟨_,rfl⟩;have hfx:kR cs ps[k]=y:=by unfold kR;rw[hfd,hy]
      have hokk:jr cs ps[k]=true:=by unfold jr;rw[hfd]
      rw[←hy]at hY hR hlp0;clear C hMX hX hXs k0 hlk hfd;rw[←hy];clear hy;obtain⟨VP,vp,hvp⟩:=bP J.parts;have hlk:((ps.take k).map (kR cs)).length=k:=by rw[b_,g_];omega
      rw[hlk]at hvp;rw[hvp]at J;have hS:S18 b11 l (.slice B2 ws.length d2) (.slice VP k vp) (.slice C1 y.c.ps.length f1) (.slice C2 y.c.qs.length f2) (.slice C3 y.c.wl.length f3) y Y:=⟨J.box,hY⟩;have hcop:=λ(Z:World) (h:Below w.heap.size w Z)=>tm y.c.st _ _ _ y.c.nt y.c.ps y.c.qs y.c.wl Z hlp0.1 hlp0.2.1 hlp0.2.2 (((hR.keep h).mono h.size).1) (((hR.keep h).mono h.size).2.1) (((hR.keep h).mono h.size).2.2);have hdr:Y.grownBy Y.drew none:=⟨rfl,rfl,rfl,ζ _,λ_ _ _=>rfl⟩;have R:=J.quiet hdr;have hSZ:=hS.kept hdr Ψ Ψ;clear J hS hY;refine wp_region_noPanic ?_;refine tS (S:=S18 b11 l (.slice B2 ws.length d2) (.slice VP k vp) (.slice C1 y.c.ps.length f1) (.slice C2 y.c.qs.length f2) (.slice C3 y.c.wl.length f3) y) Φ Φ [0,1,2,3,5,6] 6 Φ Φ (λ_ _ _ _ _ h=>h) hSZ ?_;refine cO (.pointer (some ⟨b11,1,none⟩)) rfl rfl (λw' hh=>by clear hh;go_simp) ?_;refine cO (.slice VP k vp) rfl rfl (λw' hh=>by have c:=(ae hh.c 1 rfl).1;clear hh;go_simp) ?_;refine cO (.pointer (some ⟨l,0,none⟩)) rfl rfl (λw' hh=>by clear hh;go_simp) ?_;refine cO (.agg #[.int .i64 y.c.st,.slice C1 y.c.ps.length f1,.slice C2 y.c.qs.length f2,.string y.c.nt,.slice C3 y.c.wl.length f3]) rfl rfl (λw' hh=>by
       have e0:=(ae hh.b 0 rfl).1;have e1:=(ae hh.b 1 rfl).1;have e2:=(ae hh.b 2 rfl).1;have e3:=(ae hh.b 3 rfl).1;have e4:=(ae hh.b 4 rfl).1;clear hh
       go_simp) ?_
      refine cO (.pointer (some ⟨l,5,none⟩)) rfl rfl (λw' hh=>by clear hh;go_simp) ?_;refine cO (.int .i64 y.left) rfl rfl (λw' hh=>by have c:=(ae hh.b 5 rfl).1;clear hh;go_simp) ?_;simp only[Fp];generalize Y.drew=Z0 at *;clear hdr;refine dV (i:=4) Φ (E5 (f:=38) (args :=#[.agg #[.int .i64 y.c.st,.slice C1 y.c.ps.length f1,.slice C2 y.c.qs.length f2,.string y.c.nt,.slice C3 y.c.wl.length f3]]) rfl rfl (by go_simp) ((hcop Z0 R.below).mono ?_));rintro e Z1 ⟨p,q,r,rfl,hg1,hrp,hrq,hrr⟩;obtain⟨P1,h1,rfl⟩:=bP hrp;obtain⟨P2,h2,rfl⟩:=bP hrq;obtain⟨P3,h3,rfl⟩:=bP hrr;have hS1:=hSZ.kept hg1 Ψ Ψ;refine⟨_,rfl,λ_=>hS1, ?_⟩;refine dV (i:=7) Φ (jM (v :=.agg #[.int .i64 y.c.st,.slice P1 y.c.ps.length h1,.slice P2 y.c.qs.length h2,.string y.c.nt,.slice P3 y.c.wl.length h3,.int .i64 y.left]) (w':=Z1) rfl rfl (by go_simp) ⟨λ_=>hS1, ?_⟩);have hgA:=C' Z1 (.cells #[.int .i64 y.c.st,.slice P1 y.c.ps.length h1,.slice P2 y.c.qs.length h2,.string y.c.nt,.slice P3 y.c.wl.length h3,.int .i64 y.left] 54) none;have harr:=World.alloc_heap_new Z1 (.cells #[.int .i64 y.c.st,.slice P1 y.c.ps.length h1,.slice P2 y.c.qs.length h2,.string y.c.nt,.slice P3 y.c.wl.length h3,.int .i64 y.left] 54);have hS2:=hS1.kept hgA Ψ Ψ;refine dV (i:=8) Φ (jM (v :=.slice (some ⟨Z1.heap.size,0,none⟩) 1 1) (w':=Z1.alloc (.cells #[.int .i64 y.c.st,.slice P1 y.c.ps.length h1,.slice P2 y.c.qs.length h2,.string y.c.nt,.slice P3 y.c.wl.length h3,.int .i64 y.left] 54)) rfl rfl (by go_simp) ⟨λ_=>hS2, ?_⟩);have hM2:=(R.quiet hg1).quiet hgA;generalize hZ2:Z1.alloc (.cells #[.int .i64 y.c.st,.slice P1 y.c.ps.length h1,.slice P2 y.c.qs.length h2,.string y.c.nt,.slice P3 y.c.wl.length h3,.int .i64 y.left] 54)=Z2 at hgA harr hS2 hM2⊢;obtain⟨i0,hi0,hz0,hz1,hz2⟩:=info_parts agC;have hnew:∀j v,([.int .i64 y.c.st,.slice P1 y.c.ps.length h1,.slice P2 y.c.qs.length h2,.string y.c.nt,.slice P3 y.c.wl.length h3,.int .i64 y.left]:List Value)[j]? = some v→Z2.cell? (Addr.add ⟨Z1.heap.size,0,none⟩ j)=some v:=λj v hj=>by
       have:([.int .i64 y.c.st,.slice P1 y.c.ps.length h1,.slice P2 y.c.qs.length h2,.string y.c.nt,.slice P3 y.c.wl.length h3,.int .i64 y.left]:List Value).toArray[j]? = some v:=by rw[z?];exact hj
       rw[Addr.add_mid,WJ harr,Q'];exact this
      have hone:∀v∈([.int .i64 y.c.st,.slice P1 y.c.ps.length h1,.slice P2 y.c.qs.length h2,.string y.c.nt,.slice P3 y.c.wl.length h3,.int .i64 y.left]:List Value),v.oneCell'=true:=λv hv=>by simp only[P',List.not_mem_nil,or_false]at hv;obtain rfl|rfl|rfl|rfl|rfl|rfl:=hv <;> rfl
      have U:=hM2.parts;rw[hlk]at U;have hBZ:=hM2.top;have hBle:B≤Z2.heap.size:=Ω
      have hk1:k+1≤maxLen:=by unfold maxLen;omega
      have hk2:(k+1)*104≤140737488355328:=Ω
      obtain⟨v',Z3,r2,hp2,hg3,hown,_,_⟩:=b8 (P:=prog) (B:={ b:=B }) Z2 29 29 54 i0 (.agg #[.int .i64 0,.slice none 0 0,.slice none 0 0,.string ByteArray.empty,.slice none 0 0,.int .i64 0]) 6 104 Z8 hi0 hz0 hz1 hz2 rfl Ϛ (.slice VP k vp) k vs.flatten U (some ⟨Z1.heap.size,0,none⟩) 1 1 [.int .i64 y.c.st,.slice P1 y.c.ps.length h1,.slice P2 y.c.qs.length h2,.string y.c.nt,.slice P3 y.c.wl.length h3,.int .i64 y.left] rfl (.inr ⟨_,rfl,hnew⟩) hone hk1 hk2 hBle;have hPart:cN Z2 B Z2.heap.size y [.int .i64 y.c.st,.slice P1 y.c.ps.length h1,.slice P2 y.c.qs.length h2,.string y.c.nt,.slice P3 y.c.wl.length h3,.int .i64 y.left]:=by
       have b0:=R.top;have u1:=dq (iM hrp (show B≤Z0.heap.size by omega)) hgA;have u2:=dq (iM hrq (show B≤Z0.heap.size by omega)) hgA;have u3:=dq (iM hrr (show B≤Z0.heap.size by omega)) hgA;have lt:∀{e size n:Nat} {u:Value} {xs:List Value},Z2.ownsRow B e size u n xs→∀g,u.ownBlock=some g→g<Z2.heap.size:=λhu g e=>by obtain⟨_,cur,h3⟩:=sx hu e;exact(δ.1 h3).1
       exact⟨_,_,_,rfl,u1,u2,u3,λg hg=>by
        obtain hg|hg|hg:=hg
        ·exact lt u1 g hg
        ·exact lt u2 g hg
        ·exact lt u3 g hg⟩
      have hM3:=hM2.done hg3 hPart (pv':=v') (by rw[hlk];exact hp2) hown;obtain⟨V1,v1,rfl⟩:=bP hp2;have hS3:S18 b11 l (.slice B2 ws.length d2) (.slice VP k vp) (.slice C1 y.c.ps.length f1) (.slice C2 y.c.qs.length f2) (.slice C3 y.c.wl.length f3) y Z3:=by
       have hbn:b11<l:=hM2.top.2.1;refine hS2.kept hg3 (λe=>?_) λe=>?_
       ·obtain⟨_,cur,h⟩:=sx hM2.parts e.symm;rw[hM2.box]at h;cases h
       ·have:=hM2.plt _ e.symm;omega
      refine dV (i:=9) Φ (jM (v :=.slice V1 (k+1) v1) (w':=Z3) rfl rfl (xL (s :=.tmp 68) (x :=.tmp 75) (t:=29) (u :=.slice VP k vp) (y :=.slice (some ⟨Z1.heap.size,0,none⟩) 1 1) rfl (by go_simp) (by go_simp) r2) ⟨λ_=>hS3, ?_⟩);refine dV (i:=10) Φ (jM (v :=.pointer (some ⟨b11,1,none⟩)) (w':=Z3) rfl rfl (by go_simp) ⟨λ_=>hS3, ?_⟩);have sc:=(ae hS3.c 1 rfl).1;have sf:=(ae hS3.c 1 rfl).2;refine dV (i:=11) Φ (Jd (w':=Z3.setCell ⟨b11,1,none⟩ (.slice V1 (k+1) v1)) rfl rfl (by go_simp) ⟨λh=>(by
       rw[show Kf .any _ [0,1,2,3,5,6] 11=true by kernel_rfl]at h;cases h),Ke Φ (NoPanic.normal ?_)⟩)
      have hfin:FiM w B b11 cs (.slice B2 ws.length d2) ws ps (.int .i64 ((k+1:Nat):Int)) (Z3.setCell ⟨b11,1,none⟩ (.slice V1 (k+1) v1)):=by
       have e:(ps.take k).map (kR cs)++[y]=(ps.take (k+1)).map (kR cs):=by rw[J' hlt,M_,←hfx];rfl
       rw[e]at hM3;refine⟨k+1,hlt,rfl,λx hx=>?_,_,_,_,hM3⟩;rw[J' hlt]at hx;obtain hx|hx:=π.1 hx
       ·exact hok x hx
       ·rw[ξ.1 hx];exact hokk
      clear hM3 hS3 sc sf hg3 hown hp2 r2 U hnew hone hPart hM2 hS2 harr hgA R hSZ hcop hS1 hrp hrq hrr
      go_wp2
      go_roundw
      case rel=>simpa using hfin
      case measure=>simp[Go.RowKit.intOf];omega
    ·obtain rfl:k=ps.length:=Ω
     rw[z_]at hok hM;obtain⟨VP,vp,hvp⟩:=bP hM.parts;rw[b_]at hvp;subst hvp;have z0:=(ae hM.box 0 rfl).1;have z1:=(ae hM.box 1 rfl).1;have o0:=(ae hM.res 0 rfl).1;have o1:=(ae hM.res 1 rfl).1;have p0:=(ae hM.res 0 rfl).2;have p1:=(ae hM.res 1 rfl).2;have hF:=hM.fin rfl;rw[b_]at hF;clear hM
     go_wp2
     obtain⟨hF1,hF2,hF3,hF4,hF5⟩:=hF;refine alp (qD rfl _ _ (w.heap.size+1) _ _ _ _ rfl hF1 underlying31 rfl Φ) rfl ?_;exact⟨hF2,.inl ⟨G'.2 hok,_,_,vs,rfl,hF3,hF4,hF5⟩⟩
def MG (c:tCommit.den):Bool:=decide (c.2.1.length≤1048576∧c.2.2.1.length≤1048576∧c.2.2.2.2.1.length≤1048576)
def EL (c:tCommit.den):Bool:=MG c
def BI (c:tCommit.den):tCommit.den:=c
def ke (p:ao.den):PF:=⟨gi p.1,p.2.1.toNat⟩
def nF (l:List tCommit.den)(p:ao.den):ao.den:=match l.find? λx=>x.1 == p.1.1 with
 |some x=>(x,0,())
 |none=>p
def Br (c:am.den)(l:List tCommit.den):Bool:=decide (c.1.length≤1048576∧l.length≤1048576∧c.2.1.length≤1048576)&&(l.all MG&&c.2.1.all λp=>decide (0≤p.2.1)&&MG p.1)
def b7 (c:am.den)(l:List tCommit.den):am.den×Int×Unit :=
 if (c.2.1.map ke).all (jr (l.map gi))=true then((c.1,c.2.1.map (nF l),()),0,())else(([],[],()),8,())
def G7:MG c=true↔ZM (gi c):=by unfold MG ZM gi;rw[v?,b_]
def KD (l:List tCommit.den)(k:Int):kE (l.map gi) k=(l.find? λx=>x.1 == k).map gi:=by unfold kE;rw[List.find?_map];rfl
def Y8 (l:List tCommit.den)(p:ao.den):kR (l.map gi) (ke p)=ke (nF l p):=by unfold kR nF;rw[KD];show(match (l.find? λx=>x.1 == p.1.1).map gi with|some c=>(⟨c,0⟩:PF)|none=>ke p)=_;cases l.find? λx=>x.1 == p.1.1 <;> rfl
def ag6 {W:World}{T:Nat}(l:0≤p.2.1)(h:cN W w.heap.size T (ke p) vs):Rep W (Ax w W St) (toD ao p) vs:=by obtain⟨pv,g,f,rfl,C,r,j,_⟩:=h;have e:(ke p).c.wl=p.1.2.2.2.2.1.map bN:=rfl;have J:(((ke p).left:Nat):Int)=p.2.1:=akb l;rw[e,b_]at j;rw[J];exact⟨[_,pv,g,_,f],[_],rfl,⟨[_],_,rfl,⟨rfl,rfl⟩,[pv],_,rfl,jE (τ :=.int .i64) C (wu _),[g],_,rfl,jE (τ :=.int .i64) r (wu _),[_],_,rfl,⟨rfl,rfl⟩,[f],[],rfl,jE (τ:=aa) j (yX _),rfl⟩,[_],[],rfl,⟨rfl,rfl⟩,rfl⟩
def Vv {w W:World}{St:Sb}{T:Nat}:∀{l:List ao.den} {vs:List (List Value)},(∀p∈l,0≤p.2.1)→fG W w.heap.size T (l.map ke) vs→Rep W (Ax w W St) (chain (toD ao) l) vs.flatten
 |[],[],_,_=>rfl
 |_::_,_::_,f,h=>⟨_,_,rfl,ag6 (f _ (X' ..)) h.1,Vv (λp g=>f p (F' _ g)) h.2⟩
 |[],_::_,_,h=>h.elim
 |_::_,[],_,h=>h.elim
def Dy (f:∀b o,St b o→b<w.heap.size){cs:List Value}(h:Rep w St (toD tCommit c) cs):∃pv j g,cs=[.int .i64 c.1,pv,j,.string (gi c).nt,g]∧nZ w w.heap.size (gi c) pv j g:=by
 obtain⟨c1,r1,rfl,⟨rfl,_⟩,c2,r2,rfl,p,c3,r3,rfl,l,c4,r4,rfl,⟨rfl,_⟩,c5,r5,rfl,h5,rfl⟩:=h;obtain⟨P,rfl⟩:∃v,c2=[v]:=by obtain⟨A,n,c,e,_⟩:=p;exact⟨_,e⟩
 obtain⟨J,rfl⟩:∃v,c3=[v]:=by obtain⟨A,n,c,e,_⟩:=l;exact⟨_,e⟩
 obtain⟨C,rfl⟩:∃v,c5=[v]:=by obtain⟨A,n,c,e,_⟩:=h5;exact⟨_,e⟩
 refine⟨P,J,C,rfl,je (t :=.int .i64) Ϛ f p λr h=>xh h,je (t :=.int .i64) Ϛ f l λr h=>xh h, ?_⟩;have:=je (t:=aa) Ϛ f h5 λr h=>Ni h;have e:(gi c).wl.length=c.2.2.2.2.1.length:=by simp[gi]
 rw[e];exact this
def aaY (J:∀b o,St b o→b<w.heap.size){l:List ao.den}(hl:∀p∈l,0≤p.2.1){va:Value}(h:Rep w St (toD (.slice ao) l) [va]):∃A cap,va = .slice A l.length cap∧agO w w.heap.size A (l.map ke):=by
 obtain⟨A,cap,e0,hc,hh⟩:=eh h;cases e0;refine⟨A,cap,rfl,λr=>?_⟩;rw[b_]at r;obtain h|⟨ad,ds,rfl,T,hr,g⟩:=hh
 ·have h:l.length=0:=h;omega
 ·obtain⟨b,j,sp⟩:=ad;have T:sp=none:=T;subst T;have hlen:ds.length=l.length*6:=bw hr;refine⟨b,j,rfl,(J _ _ (g 0 _ (ε Ω)).2),λk U=>?_⟩;rw[b_]at U;have C:=rr hr k U;have R:ao.size=6:=rfl;rw[R]at C;obtain⟨c1,r1,e1,h1,c2,r2,rfl,⟨rfl,_⟩,rfl⟩:=C;obtain⟨pv,qv,wv,rfl,hR⟩:=Dy J h1;have cell:∀f u,(((ds.drop (k*6)).take 6))[f]? = some u→w.cell? ⟨b,j+k*6+f,none⟩=some u:=λf u P=>by
   have hf:f<6:=by have:=(S'.1 P).1;rw[g_]at this;omega
   rw[abs hf,h_]at P;have:=(g (k*6+f) u P).1;rwa[cV,←Nat.add_assoc]at this
  rw[e1]at cell;rw[List.getElem_map];have e2:(((ke l[k]).left:Nat):Int)=l[k].2.1:=akb (hl _ (w_ U));exact⟨pv,qv,wv,cell 0 _ rfl,cell 1 _ rfl,cell 2 _ rfl,cell 3 _ rfl,cell 4 _ rfl,by rw[e2];exact cell 5 _ rfl,hR⟩
def aew {t:Ty}{x:t.den}(h:RepVs w St [⟨t,x⟩] vs):∃v,vs=[v]∧RepV w St t x v:=by
 match vs,h with
 |[v],⟨f,_⟩=>exact⟨v,rfl,f⟩
def acS (c:tCommit.den)(h:EL c=true):MeetsD prog 38 [⟨tCommit,c⟩] (.val tCommit (BI c)):=by obtain⟨U,T,R⟩:=G7.1 h;refine⟨⟨_,func38,rfl,Φ⟩,λw St j vs f=>?_⟩;obtain⟨v,rfl,g⟩:=aew f;unfold RepV at g;rw[q' (show tCommit.isStruct=true from rfl)]at g;obtain⟨cs,rfl,hr⟩:=g;obtain⟨pv,P,J,rfl,l⟩:=Dy j hr;refine(tm c.1 pv P J (gi c).nt (gi c).ps (gi c).qs (gi c).wl w U T R l.1 l.2.1 l.2.2).mono ?_;rintro e w' ⟨p,q,r,rfl,hg,h1,h2,C⟩;refine aaZ (bq hg) (ζ _) ?_;unfold RepV;rw[q' (show tCommit.isStruct=true from rfl)];have e:(gi c).wl=c.2.2.2.2.1.map bN:=rfl;rw[e,b_]at C;exact⟨[_,p,q,_,r],rfl,[_],_,rfl,⟨rfl,rfl⟩,[p],_,rfl,jE (τ :=.int .i64) h1 (wu _),[q],_,rfl,jE (τ :=.int .i64) h2 (wu _),[_],_,rfl,⟨rfl,rfl⟩,[r],[],rfl,jE (τ:=aa) C (yX _),rfl⟩
def KF {c:am.den}:Br c l=true↔(c.1.length≤1048576∧l.length≤1048576∧c.2.1.length≤1048576)∧(∀x∈l,MG x=true)∧∀p∈c.2.1,0≤p.2.1∧MG p.1=true:=by unfold Br;simp only[ι,v?,G']
def Ur (h:0≤p.2.1):0≤(nF l p).2.1:=by
 unfold nF;cases l.find? λx=>x.1 == p.1.1 with
 |some x=>exact aj4 0
 |none=>exact h
def Pm {f :World}(l:Below w.heap.size w f)(j:dz w≤dz f){t:Ty}{x:t.den}{v:Value}(g:RepV f (Ax w f St) t x v){n:Int}:UX w St (.tup (cm [.val t x,.val (.int .i64) n])) (.returned (.tuple #[v,.int .i64 n])) f :=
 ⟨_,Ax w f St,rfl,l,j,PN w f St,λ_ _ h=>h,λ_ _ _ _ h=>.inl h,[v,.int .i64 n],rfl,⟨v,_,rfl,⟨v,rfl,g⟩,_,[],rfl,⟨_,rfl,by unfold RepV;rw[B' (by simp[Ty.isStruct])];exact⟨rfl,rfl⟩⟩,rfl⟩,rfl⟩
def ahQ (c:am.den)(l:List tCommit.den)(h:Br c l=true):MeetsD prog 20 [⟨am,c⟩,⟨.slice tCommit,l⟩] (.tup (cm [.val am (b7 c l).1,.val (.int .i64) (b7 c l).2.1])):=by
 obtain⟨⟨g1,g2,g3⟩,g4,g5⟩:=KF.1 h;refine⟨⟨_,func20,rfl,Φ⟩,λw St g vs P=>?_⟩;obtain⟨v1,v2,rfl,h1,h2⟩:=aab P;obtain⟨A,cap,rfl,_,hcs⟩:=acV g h2;unfold RepV at h1;rw[q' (show am.isStruct=true from rfl)]at h1;obtain⟨cells,rfl,c1,r1,rfl,q1,c2,r2,rfl,q2,rfl⟩:=h1;obtain⟨cw,rfl⟩:∃v,c1=[v]:=by obtain⟨A,n,c,e,_⟩:=q1;exact⟨_,e⟩
 obtain⟨cp,rfl⟩:∃v,c2=[v]:=by obtain⟨A,n,c,e,_⟩:=q2;exact⟨_,e⟩
 obtain⟨A2,r,rfl,R⟩:=aaY g (λp j=>(g5 p j).1) q2;have:=Y7 (l.map gi) (c.2.1.map ke) c.1 g1 (by rw[b_];exact g2) (by rw[b_];exact g3) (λx J=>by
  obtain⟨y,C,rfl⟩:=a_.1 J;exact G7.1 (g4 y C)) (λx J=>by
  obtain⟨y,C,rfl⟩:=a_.1 J;exact G7.1 (g5 y C).2) w A A2 cap r cw hcs R (je (t :=.int .i64) Ϛ g q1 λds h=>xh h)
 rw[b_,b_]at this;refine this.mono ?_;rintro e w' ⟨hb,⟨f,wv,pv,vs,rfl,ho1,U,j⟩|⟨f,rfl⟩⟩
 ·have e:b7 c l=((c.1,c.2.1.map (nF l),()),0,()):=by unfold b7;rw[q' f]
  rw[e];refine Pm hb (ζ _) ?_;unfold RepV;rw[q' (show am.isStruct=true from rfl)];have hm:(c.2.1.map ke).map (kR (l.map gi))=(c.2.1.map (nF l)).map ke:=by rw[r?,r?];exact akL λp _=>Y8 l p
  rw[hm]at j;have T:=Vv (St:=St) (l:=c.2.1.map (nF l)) (λp j=>by
   obtain⟨q,hq,rfl⟩:=a_.1 j;exact Ur (g5 q hq).1) j
  refine⟨[wv,pv],rfl,[wv],[pv],rfl,jE (τ :=.int .i64) ho1 (wu _),[pv],[],rfl, ?_,rfl⟩;exact jE (τ:=ao) (by rw[b_];exact U) T
 ·have e:b7 c l=(([],[],()),8,()):=by unfold b7;rw[B' (by rw[f];simp)]
  rw[e];refine Pm hb (ζ _) ?_;unfold RepV;rw[q' (show am.isStruct=true from rfl)];exact⟨[.slice none 0 0,.slice none 0 0],rfl,[_],_,rfl,jE (e:=3) (τ :=.int .i64) (l:=[]) (xs:=[]) ⟨rfl,.inl ⟨rfl,rfl⟩⟩ rfl,[_],[],rfl,jE (e:=3) (τ:=ao) (l:=[]) (xs:=[]) ⟨rfl,.inl ⟨rfl,rfl⟩⟩ rfl,rfl⟩
