/- Parts. -/
import Derived.Test.YtfgpipfjalmooaaGreatFlF
import Derived.Test.YtfgpipfjalmooaaGreatMkB
open Option renaming some→ä,none→ö
open Bool renaming true→ü
open Go renaming World→ß,Value→æ
set_option linter.all false
noncomputable section
namespace Go.Proofs.YtfgpipfjalmooaaGreat
namespace Abs
open Go Go.Proofs Go.RowKit Go.Maps Go.Shelf Tryz
def ajV (w:ß)(B b f:Nat)(x:PF):Prop :=
 ∃pv j g,w.cell? ⟨b,f,ö⟩=ä (.int .i64 x.c.st)∧w.cell? ⟨b,f+1,ö⟩=ä pv∧w.cell? ⟨b,f+2,ö⟩=ä j∧w.cell? ⟨b,f+3,ö⟩=ä (.string x.c.nt)∧w.cell? ⟨b,f+4,ö⟩=ä g∧w.cell? ⟨b,f+5,ö⟩=ä (.int .i64 x.left)∧mQ w B x.c pv j g
def agV (w:ß)(B:Nat)(A:Option Addr)(ps:List PF):Prop:=0<ps.length→∃b f,A=ä ⟨b,f,ö⟩∧b<B∧∀k (h:k<ps.length),ajV w B b (f+k*6) ps[k]
def jX (f:List CF)(x:PF):PF:=match jE f x.c.st with
 |some c=>⟨c,0⟩
 |none=>x
def jT (f:List CF)(x:PF):Bool:=match jE f x.c.st with
 |some c=>iQ x c
 |none=>ü
variable{w:ß}{cs:List CF}{c:tCommit.den}{St:Sb}{p:am.den}{vs:List æ}{l:List tCommit.den}
def Kh {j:ß}{g:Array Oper}{rest:List Oper}{o:Oper}{a:Act}{Q:Exit→Act→ß→Prop}(hg:o.guard=ö)(m x v:Operand)(p:o.op=Op.mapUpdate 82 m x v)(b:Nat){B:Nat}(U:a.eval m = .map (ä b))(T:wD j B w b cs)(c:CF)(hc:jE cs c.st=ö)(pv J C:æ)(l:mQ j B c pv J C)(P:a.eval x = .int .i64 c.st)(R:a.eval v = .agg #[.int .i64 c.st,pv,J,.string c.nt,C])
  (hK:∀f,wD j B f b (cs++[c])→w.grownBy f (ä b)→wpList prog g Q rest (a.put o.dst undef) f):wpList prog g Q (o::rest) a w :=
 akS hg λ_ r=>by obtain⟨f,l,h1,h2⟩:=ai0 T hc l;unfold Oper.wp execOp;simp[p,U,P,R,l,Result.andThen];exact r _ _ (hK f h1 h2)
def FiL (w:ß)(f g:æ)(cs:List CF)(i:æ)(W:ß):Prop :=
 ∃k:Nat,k≤cs.length∧i = .int .i64 k∧w.grownBy W ö∧w.heap.size+3≤W.heap.size∧W.heap[w.heap.size]? = ä (.cells #[f,g] 31 (0,0))∧W.heap[w.heap.size+1]? = ä (.cells #[.slice ö 0 0,.slice ö 0 0] 31 (0,0))∧wD w w.heap.size W (w.heap.size+2) (cs.take k)
def FiM (w:ß)(B f:Nat)(cs:List CF)(g:æ)(j:List Int)(ps:List PF)(i:æ)(W:ß):Prop :=
 ∃k:Nat,k≤ps.length∧i = .int .i64 k∧(∀x∈ps.take k,jT cs x=ü)∧∃T pv vs,FiS w W B f T cs g pv j ((ps.take k).map (jX cs)) vs
def X9 {k:Int}{c:CF}(h:jE cs k=ä c):c∈cs∧c.st=k:=⟨alE h,by simpa using List.find?_some h⟩
set_option maxRecDepth 100000 in
set_option maxHeartbeats 3200000 in
def Ya (cs:List CF)(ps:List PF)(ws:List Int)(hws:ws.length≤1048576)(hcn:cs.length≤1048576)(hpn:ps.length≤1048576)(hlc:∀c∈cs,YW c)(hlp:∀x∈ps,YW x.c)(w:ß)(A A2:Option Addr)(cap cap2:Nat)(cw:æ)(hcs:uC w w.heap.size A cs)(hps:agV w w.heap.size A2 ps)(hcw:fP w w.heap.size cw ws.length (intsI ws)) :
  Calls prog 20 #[.agg #[cw,.slice A2 ps.length cap2],.slice A cs.length cap] w λe w'=>Below w.heap.size w w' ∧
   ((ps.all (jT cs)=ü∧∃wv pv vs,e = .returned (.tuple #[.agg #[wv,pv],.int .i64 0])∧w'.ownsRow w.heap.size 3 1 wv ws.length (intsI ws)∧w'.ownsRow w.heap.size 54 6 pv ps.length vs.flatten∧bK w' w.heap.size w'.heap.size (ps.map (jX cs)) vs) ∨
    (ps.all (jT cs)=false∧e = .returned (.tuple #[.agg #[.slice ö 0 0,.slice ö 0 0],.int .i64 8]))):=by
 obtain⟨A1,c1,rfl,x1⟩:=id hcw;clear x1;have hmm:=@run_makeMap prog
 go_enter func20,ntmps20
 go_upto_region 2 with fail
 have hL:FiL w (.slice A1 ws.length c1) (.slice A2 ps.length cap2) cs (.int .i64 (0:Nat)) (((w.alloc (.cells #[.slice A1 ws.length c1,.slice A2 ps.length cap2] 31)).alloc (.cells #[.slice ö 0 0,.slice ö 0 0] 31)).alloc (.map #[] 0)):=by
  refine⟨0,Y' _,rfl,((κ w _ ö).trans (κ _ _ ö)).trans (κ _ _ ö),Ψ, ?_, ?_, ?_⟩
  ·exact(Below.heap_alloc _ _ _ Ξ).trans ((Below.heap_alloc _ _ _ Ψ).trans (World.alloc_heap_new w _))
  ·have:=World.alloc_heap_new (w.alloc (.cells #[.slice A1 ws.length c1,.slice A2 ps.length cap2] 31)) (.cells #[.slice ö 0 0,.slice ö 0 0] 31);rw[X']at this;exact(Below.heap_alloc _ _ _ Ψ).trans this
  ·have:=wD.new w ((w.alloc (.cells #[.slice A1 ws.length c1,.slice A2 ps.length cap2] 31)).alloc (.cells #[.slice ö 0 0,.slice ö 0 0] 31)) w.heap.size;rw[X',X']at this;exact this
 generalize ((w.alloc (.cells #[.slice A1 ws.length c1,.slice A2 ps.length cap2] 31)).alloc (.cells #[.slice ö 0 0,.slice ö 0 0] 31)).alloc (.map #[] 0)=W0 at hL⊢;clear hmm
 go_wp2
 go_loopw [19] (λi wr=>FiL w (.slice A1 ws.length c1) (.slice A2 ps.length cap2) cs i wr) (λi _=>cs.length-(Go.RowKit.intOf i).toNat)
 case atStart=>exact hL
 case round=>
  clear hL;obtain⟨k,hk,rfl,hg,hsz,hcb,hres,hhas⟩:=hrel;by_cases hlt:k<cs.length
  ·obtain⟨b,off,rfl,hbl,hcell⟩:=hcs Ω;obtain⟨pv0,qv0,wv0,q0,q1,q2,q3,q4,hsp,hsq,hsw⟩:=hcell k hlt;have hR:mQ w w.heap.size cs[k] pv0 qv0 wv0:=⟨hsp,hsq,hsw⟩;have tr:∀o v,w.cell? ⟨b,o,ö⟩=ä v→wr.cell? ⟨b,o,ö⟩=ä v:=λo v h=>((bp hg).cell (p:=⟨b,o,ö⟩) hbl).trans h;have q0:=tr _ _ q0;have q1:=tr _ _ q1;have q2:=tr _ _ q2;have q3:=tr _ _ q3;have q4:=tr _ _ q4;obtain⟨A1',c1',rfl, -⟩:=hsp;obtain⟨A2',c2',rfl, -⟩:=hsq;obtain⟨A3',c3',rfl, -⟩:=hsw;clear hcell tr
   go_upto_region 5 with fail
   have hgX:=κ wr (.cells #[.int .i64 cs[k].st,.slice A1' cs[k].ps.length c1',.slice A2' cs[k].qs.length c2',.string cs[k].nt,.slice A3' cs[k].wl.length c3'] 38) ö;have hX8:=World.alloc_heap_new wr (.cells #[.int .i64 cs[k].st,.slice A1' cs[k].ps.length c1',.slice A2' cs[k].qs.length c2',.string cs[k].nt,.slice A3' cs[k].wl.length c3'] 38);generalize wr.alloc (.cells #[.int .i64 cs[k].st,.slice A1' cs[k].ps.length c1',.slice A2' cs[k].qs.length c2',.string cs[k].nt,.slice A3' cs[k].wl.length c3'] 38)=X at hgX hX8⊢;have hgw:=hg.trans hgX;have hszX:=ξ hsz hgX.size;have hcbX:=(hgX.block _ Ω Ψ).trans hcb;have hresX:=(hgX.block _ Ω Ψ).trans hres;have hhasX:=hhas.kept hgX Ψ;have k0:=(ac hX8 0 rfl).1;clear q0 q1 q2 q3 q4 hcb hres hhas hgX hg;rcases aaY hhasX cs[k].st with⟨d,p1,p2,p3,hfd,⟨⟨B1,e1,rfl, -⟩,⟨B2,e2,rfl, -⟩,⟨B3,e3,rfl, -⟩⟩,hlk⟩|⟨hfd,hlk⟩
   ·go_wp2
    go_roundw
    case rel =>have C:=κ X (.cells #[.int .i64 d.st,.slice B1 d.ps.length e1,.slice B2 d.qs.length e2,.string d.nt,.slice B3 d.wl.length e3] 38) ö;refine⟨k+1,hlt,Ψ,hgw.trans C,ξ hszX C.size,(C.block _ Ω Ψ).trans hcbX,(C.block _ Ω Ψ).trans hresX, ?_⟩;rw[N' hlt];exact(hhasX.kept C Ψ).skip hfd
    case measure=>simp[Go.RowKit.intOf];omega
   ·have C:=κ X (.cells #[.int .i64 0,.slice ö 0 0,.slice ö 0 0,.string { data :=#[] },.slice ö 0 0] 38) ö;have hX9:=(C.block _ (δ.1 hX8).1 Ψ).trans hX8;have l0:=(ac hX9 0 rfl).1;have l1:=(ac hX9 1 rfl).1;have l2:=(ac hX9 2 rfl).1;have l3:=(ac hX9 3 rfl).1;have l4:=(ac hX9 4 rfl).1;have hhY:=hhasX.kept C Ψ
    go_upto_region 8 with(first
     |(at_mapUpdate;refine Kh rfl _ _ _ rfl (w.heap.size+2) rfl hhY cs[k] hfd _ _ _ hR rfl rfl ?_;intro Z hhZ hgZ)
     |go_in)
    have hgZ':=Bj (hgw.trans C) hgZ Ω;have hsY:=C.size
    go_wp2
    go_roundw
    case rel =>refine⟨k+1,hlt,Ψ,hgZ',ξ hszX (ξ hsY hgZ.size),(hgZ.block _ Ω (λe=>by injection e with e;omega)).trans ((C.block _ Ω Ψ).trans hcbX),(hgZ.block _ Ω (λe=>by injection e with e;omega)).trans ((C.block _ Ω Ψ).trans hresX), ?_⟩;rw[N' hlt];exact hhZ
    case measure=>simp[Go.RowKit.intOf];omega
  ·obtain rfl:k=cs.length:=Ω
   rw[x_]at hhas;have z0:=(ac hcb 0 rfl).1;have hwsl:=(hcw.keep (bp hg)).mono hg.size;generalize wr=V at *
   go_upto_region 10 with(first
    |(go_at_call 35;refine(kM ws hws V _ hwsl).mono ?_;rintro e V2 ⟨v2,rfl,hr2,hg2⟩
      obtain⟨B2,d2,rfl⟩:=aO hr2)
    |go_in)
   have hM0:FiM w V.heap.size V2.heap.size cs (.slice B2 ws.length d2) ws ps (.int .i64 (0:Nat)) (V2.alloc (.cells #[.slice B2 ws.length d2,.slice ö 0 0] 31)):=by
    have g3:=hg2.trans (κ V2 (.cells #[.slice B2 ws.length d2,.slice ö 0 0] 31) ö);refine⟨0,Y' _,rfl,λx hx=>(by simp at hx),V2.heap.size+1,_,[],(bp hg).grown g3 hg.size (λr e=>by cases e),(g3.block _ Ω Ψ).trans hres,hhas.kept g3 Ψ,hsz,⟨hg2.size,akN _,Ψ⟩,World.alloc_heap_new _ _,bn hr2 (κ _ _ ö),⟨rfl,.inl ⟨rfl,rfl⟩⟩,λg e=>ale (by
     obtain⟨_,cur,h⟩:=dI hr2 e;exact(δ.1 h).1),λg e=>(by cases e),apa⟩
   have hcb2:=((hg2.trans (κ V2 (.cells #[.slice B2 ws.length d2,.slice ö 0 0] 31) ö)).block w.heap.size Ω Ψ).trans hcb;have hVw:=hg.size;generalize hb11:V2.heap.size=b11 at hM0⊢;generalize V2.alloc (.cells #[.slice B2 ws.length d2,.slice ö 0 0] 31)=V3 at hM0 hcb2⊢;generalize V.heap.size=B at hM0 hsz hVw;clear hcb hres hhas hg2 hr2 hwsl z0 hg hb11;have z1:=(ac hcb2 1 rfl).1
   go_wp2
   clear z1 hcb2
   go_loopw [44] (λi wr=>FiM w B b11 cs (.slice B2 ws.length d2) ws ps i wr) (λi _=>ps.length-(Go.RowKit.intOf i).toNat)
   case atStart=>exact hM0
   case round=>
    clear hM0;obtain⟨k,hk,rfl,hok,T,pv,vs,hM⟩:=hrel;by_cases hlt:k<ps.length
    ·obtain⟨b,off,rfl,hbl,hcell⟩:=hps Ω;obtain⟨pv0,qv0,wv0,q0,q1,q2,q3,q4,q5,hR⟩:=hcell k hlt;have tr:∀o v,w.cell? ⟨b,o,ö⟩=ä v→wr.cell? ⟨b,o,ö⟩=ä v:=λo v h=>(hM.below.cell (p:=⟨b,o,ö⟩) hbl).trans h;have q0:=tr _ _ q0;have q1:=tr _ _ q1;have q2:=tr _ _ q2;have q3:=tr _ _ q3;have q4:=tr _ _ q4;have q5:=tr _ _ q5;obtain⟨⟨C1,f1,rfl, -⟩,⟨C2,f2,rfl, -⟩,⟨C3,f3,rfl, -⟩⟩:=id hR;clear hcell tr
     go_upto_region 13 with fail
     have hgX:=κ wr (.cells #[.int .i64 ps[k].c.st,.slice C1 ps[k].c.ps.length f1,.slice C2 ps[k].c.qs.length f2,.string ps[k].c.nt,.slice C3 ps[k].c.wl.length f3,.int .i64 ps[k].left] 54) ö;have hX:=World.alloc_heap_new wr (.cells #[.int .i64 ps[k].c.st,.slice C1 ps[k].c.ps.length f1,.slice C2 ps[k].c.qs.length f2,.string ps[k].c.nt,.slice C3 ps[k].c.wl.length f3,.int .i64 ps[k].left] 54);have hXs:(wr.alloc (.cells #[.int .i64 ps[k].c.st,.slice C1 ps[k].c.ps.length f1,.slice C2 ps[k].c.qs.length f2,.string ps[k].c.nt,.slice C3 ps[k].c.wl.length f3,.int .i64 ps[k].left] 54)).heap.size=wr.heap.size+1:=by simp
     generalize wr.alloc (.cells #[.int .i64 ps[k].c.st,.slice C1 ps[k].c.ps.length f1,.slice C2 ps[k].c.qs.length f2,.string ps[k].c.nt,.slice C3 ps[k].c.wl.length f3,.int .i64 ps[k].left] 54)=X at hgX hX hXs⊢;have hMX:=(hM.mono hM.top.2.2 (ε _)).quiet hgX;have hTb:=hM.top;clear q0 q1 q2 q3 q4 q5 hM hgX;generalize wr.heap.size=l at hX hXs hMX hTb⊢;have k0:=(ac hX 0 rfl).1;have hlp0:=hlp _ (j_ hlt);rcases aaY hMX.has ps[k].c.st with⟨d,p1,p2,p3,hfd,hRd,hlk⟩|⟨hfd,hlk⟩
     ·obtain⟨⟨D1,g1,rfl, -⟩,⟨D2,g2,rfl, -⟩,⟨D3,g3,rfl, -⟩⟩:=id hRd;obtain⟨hdm, -⟩:=X9 hfd
      go_upto_region 14 with fail
      have C:=κ X (.cells #[.int .i64 d.st,.slice D1 d.ps.length g1,.slice D2 d.qs.length g2,.string d.nt,.slice D3 d.wl.length g3] 38) ö;have hY:=(C.block _ (δ.1 hX).1 Ψ).trans hX;have hD:=World.alloc_heap_new X (.cells #[.int .i64 d.st,.slice D1 d.ps.length g1,.slice D2 d.qs.length g2,.string d.nt,.slice D3 d.wl.length g3] 38);have J:=hMX.quiet C;have hcm:=Qk ps[k] d hlp0 (hlc _ hdm) (X.alloc (.cells #[.int .i64 d.st,.slice D1 d.ps.length g1,.slice D2 d.qs.length g2,.string d.nt,.slice D3 d.wl.length g3] 38)) _ _ _ _ _ _ ((hR.keep J.below).mono J.below.size) ((hRd.keep J.below).mono J.below.size);rw[hXs]at hD;generalize X.alloc (.cells #[.int .i64 d.st,.slice D1 d.ps.length g1,.slice D2 d.qs.length g2,.string d.nt,.slice D3 d.wl.length g3] 38)=Y at C hY J hD hcm⊢;clear C hMX hX k0 hlk;have k0:=(ac hY 0 rfl).1;have k1:=(ac hY 1 rfl).1;have k2:=(ac hY 2 rfl).1;have k3:=(ac hY 3 rfl).1;have k4:=(ac hY 4 rfl).1;have k5:=(ac hY 5 rfl).1;have l0:=(ac hD 0 rfl).1;have l1:=(ac hD 1 rfl).1;have l2:=(ac hD 2 rfl).1;have l3:=(ac hD 3 rfl).1;have l4:=(ac hD 4 rfl).1;have hokk:jT cs ps[k]=iQ ps[k] d:=by unfold jT;rw[hfd]
      have hfx:jX cs ps[k]=⟨d,0⟩:=by unfold jX;rw[hfd]
      have hokA:Aside (jT cs ps[k]=iQ ps[k] d):=hokk;have hfxA:Aside (jX cs ps[k]=⟨d,0⟩):=hfx;clear hokk hfx;cases hb:iQ ps[k] d with
      |false=>
       rw[hb]at hcm
       go_upto_region 15 with(first
        |(go_at_call 44;refine hcm.mono ?_;rintro e Y2 ⟨rfl,hgc⟩)
        |go_in)
       have R:=J.quiet hgc;have o0:=(ac R.cz 0 rfl).1;have o1:=(ac R.cz 1 rfl).1;have p0:=(ac R.cz 0 rfl).2;have p1:=(ac R.cz 1 rfl).2
       go_wp2
       obtain⟨hE,hgE⟩:=KC (v0 :=.slice ö 0 0) (v1 :=.slice ö 0 0) R.cz;refine alc (pD rfl _ _ (w.heap.size+1) _ _ _ _ rfl hE underlying31 rfl Φ) rfl ?_;exact⟨R.below.grown hgE R.below.size λr e=>(by injection e with e;omega),.inr ⟨alh.2 ⟨ps[k],j_ hlt,by rw[hokA.out,hb];simp⟩,rfl⟩⟩
      |true=>
       rw[hb]at hcm
       go_upto_region 17 with(first
        |(go_at_call 44;refine hcm.mono ?_;rintro e Y2 ⟨rfl,hgc⟩)
        |go_in)
       have R:=J.quiet hgc;have hY2:=(hgc.block _ (δ.1 hY).1 Ψ).trans hY;have hD2:=(hgc.block _ (δ.1 hD).1 Ψ).trans hD;clear k0 k1 k2 k3 k4 k5 l0 l1 l2 l3 l4 J hY hD hcm hgc;have l0:=(ac hD2 0 rfl).1;have l1:=(ac hD2 1 rfl).1;have l2:=(ac hD2 2 rfl).1;have l3:=(ac hD2 3 rfl).1;have l4:=(ac hD2 4 rfl).1;have k0:=(ac hY2 0 rfl).1;have k1:=(ac hY2 1 rfl).1;have k2:=(ac hY2 2 rfl).1;have k3:=(ac hY2 3 rfl).1;have k4:=(ac hY2 4 rfl).1;have k5:=(ac hY2 5 rfl).1;have m0:=(ac hY2 0 rfl).2;have m1:=(ac hY2 1 rfl).2;have m2:=(ac hY2 2 rfl).2;have m3:=(ac hY2 3 rfl).2;have m4:=(ac hY2 4 rfl).2;have m5:=(ac hY2 5 rfl).2
       go_upto_region 18 with fail
       obtain⟨hY,hgE⟩:=adU (v0 :=.int .i64 d.st) (v1 :=.slice D1 d.ps.length g1) (v2 :=.slice D2 d.qs.length g2) (v3 :=.string d.nt) (v4 :=.slice D3 d.wl.length g3) (v5 :=.int .i64 0) hY2;have J:=R.sb hgE λr e=>(by injection e with e;omega);have hys:l<(((((((Y2.setCell ⟨l,0,ö⟩ (.int .i64 d.st)).setCell ⟨l,1,ö⟩ (.slice D1 d.ps.length g1)).setCell ⟨l,2,ö⟩ (.slice D2 d.qs.length g2)).setCell ⟨l,3,ö⟩ (.string d.nt)).setCell ⟨l,4,ö⟩ (.slice D3 d.wl.length g3)).setCell ⟨l,5,ö⟩ (.int .i64 0))).heap.size:=(δ.1 hY).1;clear l0 l1 l2 l3 l4 k0 k1 k2 k3 k4 k5 m0 m1 m2 m3 m4 m5 hY2 hD2 R hgE;generalize (((((Y2.setCell ⟨l,0,ö⟩ (.int .i64 d.st)).setCell ⟨l,1,ö⟩ (.slice D1 d.ps.length g1)).setCell ⟨l,2,ö⟩ (.slice D2 d.qs.length g2)).setCell ⟨l,3,ö⟩ (.string d.nt)).setCell ⟨l,4,ö⟩ (.slice D3 d.wl.length g3)).setCell ⟨l,5,ö⟩ (.int .i64 0)=Y at hY J hys⊢;have hfx:=hfxA.out;have hokk:=hokA.out.trans hb;have hlp0:=hlc d hdm;have hR:=hRd;clear hfxA hokA hRd hfd hXs;obtain⟨y,hy⟩:∃y:PF,y=⟨d,0⟩:=⟨_,rfl⟩;rw[←hy]at hfx;have hyc:d=y.c:=by rw[hy]
       have hyl:(Value.int .i64 0) = .int .i64 (y.left:Int):=by rw[hy];rfl
       rw[hyl]at hY;clear hyl hy;subst hyc;obtain⟨VP,vp,hvp⟩:=aO J.parts;have hlk:((ps.take k).map (jX cs)).length=k:=by rw[G',g_];omega
       rw[hlk]at hvp;rw[hvp]at J;have hS:S18 b11 l (.slice B2 ws.length d2) (.slice VP k vp) (.slice D1 y.c.ps.length g1) (.slice D2 y.c.qs.length g2) (.slice D3 y.c.wl.length g3) y Y:=⟨J.box,hY⟩;have hcop:=λ(Z:ß) (h:Below w.heap.size w Z)=>kL y.c.st _ _ _ y.c.nt y.c.ps y.c.qs y.c.wl Z hlp0.1 hlp0.2.1 hlp0.2.2 (((hR.keep h).mono h.size).1) (((hR.keep h).mono h.size).2.1) (((hR.keep h).mono h.size).2.2);have hdr:Y.grownBy Y.drew none:=⟨rfl,rfl,rfl,ε _,λ_ _ _=>rfl⟩;have R:=J.quiet hdr;have hSZ:=hS.kept hdr Ψ Ψ;clear J hS hY;refine wp_region_noPanic ?_;refine sF (S:=S18 b11 l (.slice B2 ws.length d2) (.slice VP k vp) (.slice D1 y.c.ps.length g1) (.slice D2 y.c.qs.length g2) (.slice D3 y.c.wl.length g3) y) Φ Φ [0,1,2,3,5,6] 6 Φ Φ (λ_ _ _ _ _ h=>h) hSZ ?_;refine bc (.pointer (ä ⟨b11,1,ö⟩)) rfl rfl (λw' hh=>by clear hh;go_simp) ?_;refine bc (.slice VP k vp) rfl rfl (λw' hh=>by have c:=(ac hh.c 1 rfl).1;clear hh;go_simp) ?_;refine bc (.pointer (ä ⟨l,0,ö⟩)) rfl rfl (λw' hh=>by clear hh;go_simp) ?_;refine bc (.agg #[.int .i64 y.c.st,.slice D1 y.c.ps.length g1,.slice D2 y.c.qs.length g2,.string y.c.nt,.slice D3 y.c.wl.length g3]) rfl rfl (λw' hh=>by
        have e0:=(ac hh.b 0 rfl).1;have e1:=(ac hh.b 1 rfl).1;have e2:=(ac hh.b 2 rfl).1;have e3:=(ac hh.b 3 rfl).1;have e4:=(ac hh.b 4 rfl).1;clear hh
        go_simp) ?_
       refine bc (.pointer (ä ⟨l,5,ö⟩)) rfl rfl (λw' hh=>by clear hh;go_simp) ?_;refine bc (.int .i64 y.left) rfl rfl (λw' hh=>by have c:=(ac hh.b 5 rfl).1;clear hh;go_simp) ?_;simp only[wM];generalize Y.drew=Z0 at *;clear hdr;refine dQ (i:=4) Φ (DU (f:=38) (args :=#[.agg #[.int .i64 y.c.st,.slice D1 y.c.ps.length g1,.slice D2 y.c.qs.length g2,.string y.c.nt,.slice D3 y.c.wl.length g3]]) rfl rfl (by go_simp) ((hcop Z0 R.below).mono ?_));rintro e Z1 ⟨p,q,r,rfl,hg1,hrp,hrq,hrr⟩;obtain⟨P1,h1,rfl⟩:=aO hrp;obtain⟨P2,h2,rfl⟩:=aO hrq;obtain⟨P3,h3,rfl⟩:=aO hrr;have hS1:=hSZ.kept hg1 Ψ Ψ;refine⟨_,rfl,λ_=>hS1, ?_⟩;refine dQ (i:=7) Φ (cP (v :=.agg #[.int .i64 y.c.st,.slice P1 y.c.ps.length h1,.slice P2 y.c.qs.length h2,.string y.c.nt,.slice P3 y.c.wl.length h3,.int .i64 y.left]) (w':=Z1) rfl rfl (by go_simp) ⟨λ_=>hS1, ?_⟩);have hgA:=κ Z1 (.cells #[.int .i64 y.c.st,.slice P1 y.c.ps.length h1,.slice P2 y.c.qs.length h2,.string y.c.nt,.slice P3 y.c.wl.length h3,.int .i64 y.left] 54) ö;have harr:=World.alloc_heap_new Z1 (.cells #[.int .i64 y.c.st,.slice P1 y.c.ps.length h1,.slice P2 y.c.qs.length h2,.string y.c.nt,.slice P3 y.c.wl.length h3,.int .i64 y.left] 54);have hS2:=hS1.kept hgA Ψ Ψ;refine dQ (i:=8) Φ (cP (v :=.slice (ä ⟨Z1.heap.size,0,ö⟩) 1 1) (w':=Z1.alloc (.cells #[.int .i64 y.c.st,.slice P1 y.c.ps.length h1,.slice P2 y.c.qs.length h2,.string y.c.nt,.slice P3 y.c.wl.length h3,.int .i64 y.left] 54)) rfl rfl (by go_simp) ⟨λ_=>hS2, ?_⟩);have hM2:=(R.quiet hg1).quiet hgA;generalize hZ2:Z1.alloc (.cells #[.int .i64 y.c.st,.slice P1 y.c.ps.length h1,.slice P2 y.c.qs.length h2,.string y.c.nt,.slice P3 y.c.wl.length h3,.int .i64 y.left] 54)=Z2 at hgA harr hS2 hM2⊢;obtain⟨i0,hi0,hz0,hz1,hz2⟩:=info_parts abm;have hnew:∀j v,([.int .i64 y.c.st,.slice P1 y.c.ps.length h1,.slice P2 y.c.qs.length h2,.string y.c.nt,.slice P3 y.c.wl.length h3,.int .i64 y.left]:List æ)[j]? = ä v→Z2.cell? (Addr.add ⟨Z1.heap.size,0,ö⟩ j)=ä v:=λj v hj=>by
        have:([.int .i64 y.c.st,.slice P1 y.c.ps.length h1,.slice P2 y.c.qs.length h2,.string y.c.nt,.slice P3 y.c.wl.length h3,.int .i64 y.left]:List æ).toArray[j]? = ä v:=by rw[Z_];exact hj
        rw[Addr.add_mid,DE harr,Z'];exact this
       have hone:∀v∈([.int .i64 y.c.st,.slice P1 y.c.ps.length h1,.slice P2 y.c.qs.length h2,.string y.c.nt,.slice P3 y.c.wl.length h3,.int .i64 y.left]:List æ),v.oneCell'=true:=λv hv=>by simp only[c_,alq,or_false]at hv;obtain rfl|rfl|rfl|rfl|rfl|rfl:=hv <;> rfl
       have U:=hM2.parts;rw[hlk]at U;have hBZ:=hM2.top;have hBle:B≤Z2.heap.size:=Ω
       have hk1:k+1≤maxLen:=by unfold maxLen;omega
       have hk2:(k+1)*104≤140737488355328:=Ω
       obtain⟨v',Z3,r2,hp2,hg3,hown,_,_⟩:=cg (P:=prog) (B:={ b:=B }) Z2 29 29 54 i0 (.agg #[.int .i64 0,.slice ö 0 0,.slice ö 0 0,.string ByteArray.empty,.slice ö 0 0,.int .i64 0]) 6 104 Q6 hi0 hz0 hz1 hz2 rfl Ϛ (.slice VP k vp) k vs.flatten U (ä ⟨Z1.heap.size,0,ö⟩) 1 1 [.int .i64 y.c.st,.slice P1 y.c.ps.length h1,.slice P2 y.c.qs.length h2,.string y.c.nt,.slice P3 y.c.wl.length h3,.int .i64 y.left] rfl (.inr ⟨_,rfl,hnew⟩) hone hk1 hk2 hBle;have hPart:cJ Z2 B Z2.heap.size y [.int .i64 y.c.st,.slice P1 y.c.ps.length h1,.slice P2 y.c.qs.length h2,.string y.c.nt,.slice P3 y.c.wl.length h3,.int .i64 y.left]:=by
        have b0:=R.top;have u1:=bn (ct hrp (show B≤Z0.heap.size by omega)) hgA;have u2:=bn (ct hrq (show B≤Z0.heap.size by omega)) hgA;have u3:=bn (ct hrr (show B≤Z0.heap.size by omega)) hgA;have lt:∀{e size n:Nat} {u:æ} {xs:List æ},Z2.ownsRow B e size u n xs→∀g,u.ownBlock=ä g→g<Z2.heap.size:=λhu g e=>by obtain⟨_,cur,h3⟩:=dI hu e;exact(δ.1 h3).1
        exact⟨_,_,_,rfl,u1,u2,u3,λg hg=>by
         obtain hg|hg|hg:=hg
         ·exact lt u1 g hg
         ·exact lt u2 g hg
         ·exact lt u3 g hg⟩
       have hM3:=hM2.done hg3 hPart (pv':=v') (by rw[hlk];exact hp2) hown;obtain⟨V1,v1,rfl⟩:=aO hp2;have hS3:S18 b11 l (.slice B2 ws.length d2) (.slice VP k vp) (.slice D1 y.c.ps.length g1) (.slice D2 y.c.qs.length g2) (.slice D3 y.c.wl.length g3) y Z3:=by
        have hbn:b11<l:=hM2.top.2.1;refine hS2.kept hg3 (λe=>?_) λe=>?_
        ·obtain⟨_,cur,h⟩:=dI hM2.parts e.symm;rw[hM2.box]at h;cases h
        ·have:=hM2.plt _ e.symm;omega
       refine dQ (i:=9) Φ (cP (v :=.slice V1 (k+1) v1) (w':=Z3) rfl rfl (iU (s :=.tmp 68) (x :=.tmp 75) (t:=29) (u :=.slice VP k vp) (y :=.slice (ä ⟨Z1.heap.size,0,ö⟩) 1 1) rfl (by go_simp) (by go_simp) r2) ⟨λ_=>hS3, ?_⟩);refine dQ (i:=10) Φ (cP (v :=.pointer (ä ⟨b11,1,ö⟩)) (w':=Z3) rfl rfl (by go_simp) ⟨λ_=>hS3, ?_⟩);have sc:=(ac hS3.c 1 rfl).1;have sf:=(ac hS3.c 1 rfl).2;refine dQ (i:=11) Φ (uG (w':=Z3.setCell ⟨b11,1,ö⟩ (.slice V1 (k+1) v1)) rfl rfl (by go_simp) ⟨λh=>(by
        rw[show IY .any _ [0,1,2,3,5,6] 11=ü by kernel_rfl]at h;cases h),IX Φ (NoPanic.normal ?_)⟩)
       have hfin:FiM w B b11 cs (.slice B2 ws.length d2) ws ps (.int .i64 ((k+1:Nat):Int)) (Z3.setCell ⟨b11,1,ö⟩ (.slice V1 (k+1) v1)):=by
        have e:(ps.take k).map (jX cs)++[y]=(ps.take (k+1)).map (jX cs):=by rw[N' hlt,T_,←hfx];rfl
        rw[e]at hM3;refine⟨k+1,hlt,rfl,λx hx=>?_,_,_,_,hM3⟩;rw[N' hlt]at hx;obtain hx|hx:=q'.1 hx
        ·exact hok x hx
        ·rw[E'.1 hx];exact hokk
       clear hM3 hS3 sc sf hg3 hown hp2 r2 U hnew hone hPart hM2 hS2 harr hgA R hSZ hcop hS1 hrp hrq hrr
       go_wp2
       go_roundw
       case rel=>simpa using hfin
       case measure=>simp[Go.RowKit.intOf];omega
     ·go_upto_region 18 with fail
      have C:=κ X (.cells #[.int .i64 0,.slice ö 0 0,.slice ö 0 0,.string { data :=#[] },.slice ö 0 0] 38) ö;have hY:=(C.block _ (δ.1 hX).1 Ψ).trans hX;have J:=hMX.quiet C;have hys:l<(X.alloc (.cells #[.int .i64 0,.slice ö 0 0,.slice ö 0 0,.string { data :=#[] },.slice ö 0 0] 38)).heap.size:=(δ.1 hY).1;generalize X.alloc (.cells #[.int .i64 0,.slice ö 0 0,.slice ö 0 0,.string { data :=#[] },.slice ö 0 0] 38)=Y at C hY J hys⊢;obtain⟨y,hy⟩:∃y,y=ps[k]:=⟨_,rfl⟩;have hfx:jX cs ps[k]=y:=by unfold jX;rw[hfd,hy]
      have hokk:jT cs ps[k]=true:=by unfold jT;rw[hfd]
      rw[←hy]at hY hR hlp0;clear C hMX hX hXs k0 hlk hfd;rw[←hy];clear hy;obtain⟨VP,vp,hvp⟩:=aO J.parts;have hlk:((ps.take k).map (jX cs)).length=k:=by rw[G',g_];omega
      rw[hlk]at hvp;rw[hvp]at J;have hS:S18 b11 l (.slice B2 ws.length d2) (.slice VP k vp) (.slice C1 y.c.ps.length f1) (.slice C2 y.c.qs.length f2) (.slice C3 y.c.wl.length f3) y Y:=⟨J.box,hY⟩;have hcop:=λ(Z:ß) (h:Below w.heap.size w Z)=>kL y.c.st _ _ _ y.c.nt y.c.ps y.c.qs y.c.wl Z hlp0.1 hlp0.2.1 hlp0.2.2 (((hR.keep h).mono h.size).1) (((hR.keep h).mono h.size).2.1) (((hR.keep h).mono h.size).2.2);have hdr:Y.grownBy Y.drew none:=⟨rfl,rfl,rfl,ε _,λ_ _ _=>rfl⟩;have R:=J.quiet hdr;have hSZ:=hS.kept hdr Ψ Ψ;clear J hS hY;refine wp_region_noPanic ?_;refine sF (S:=S18 b11 l (.slice B2 ws.length d2) (.slice VP k vp) (.slice C1 y.c.ps.length f1) (.slice C2 y.c.qs.length f2) (.slice C3 y.c.wl.length f3) y) Φ Φ [0,1,2,3,5,6] 6 Φ Φ (λ_ _ _ _ _ h=>h) hSZ ?_;refine bc (.pointer (ä ⟨b11,1,ö⟩)) rfl rfl (λw' hh=>by clear hh;go_simp) ?_;refine bc (.slice VP k vp) rfl rfl (λw' hh=>by have c:=(ac hh.c 1 rfl).1;clear hh;go_simp) ?_;refine bc (.pointer (ä ⟨l,0,ö⟩)) rfl rfl (λw' hh=>by clear hh;go_simp) ?_;refine bc (.agg #[.int .i64 y.c.st,.slice C1 y.c.ps.length f1,.slice C2 y.c.qs.length f2,.string y.c.nt,.slice C3 y.c.wl.length f3]) rfl rfl (λw' hh=>by
       have e0:=(ac hh.b 0 rfl).1;have e1:=(ac hh.b 1 rfl).1;have e2:=(ac hh.b 2 rfl).1;have e3:=(ac hh.b 3 rfl).1;have e4:=(ac hh.b 4 rfl).1;clear hh
       go_simp) ?_
      refine bc (.pointer (ä ⟨l,5,ö⟩)) rfl rfl (λw' hh=>by clear hh;go_simp) ?_;refine bc (.int .i64 y.left) rfl rfl (λw' hh=>by have c:=(ac hh.b 5 rfl).1;clear hh;go_simp) ?_;simp only[wM];generalize Y.drew=Z0 at *;clear hdr;refine dQ (i:=4) Φ (DU (f:=38) (args :=#[.agg #[.int .i64 y.c.st,.slice C1 y.c.ps.length f1,.slice C2 y.c.qs.length f2,.string y.c.nt,.slice C3 y.c.wl.length f3]]) rfl rfl (by go_simp) ((hcop Z0 R.below).mono ?_));rintro e Z1 ⟨p,q,r,rfl,hg1,hrp,hrq,hrr⟩;obtain⟨P1,h1,rfl⟩:=aO hrp;obtain⟨P2,h2,rfl⟩:=aO hrq;obtain⟨P3,h3,rfl⟩:=aO hrr;have hS1:=hSZ.kept hg1 Ψ Ψ;refine⟨_,rfl,λ_=>hS1, ?_⟩;refine dQ (i:=7) Φ (cP (v :=.agg #[.int .i64 y.c.st,.slice P1 y.c.ps.length h1,.slice P2 y.c.qs.length h2,.string y.c.nt,.slice P3 y.c.wl.length h3,.int .i64 y.left]) (w':=Z1) rfl rfl (by go_simp) ⟨λ_=>hS1, ?_⟩);have hgA:=κ Z1 (.cells #[.int .i64 y.c.st,.slice P1 y.c.ps.length h1,.slice P2 y.c.qs.length h2,.string y.c.nt,.slice P3 y.c.wl.length h3,.int .i64 y.left] 54) ö;have harr:=World.alloc_heap_new Z1 (.cells #[.int .i64 y.c.st,.slice P1 y.c.ps.length h1,.slice P2 y.c.qs.length h2,.string y.c.nt,.slice P3 y.c.wl.length h3,.int .i64 y.left] 54);have hS2:=hS1.kept hgA Ψ Ψ;refine dQ (i:=8) Φ (cP (v :=.slice (ä ⟨Z1.heap.size,0,ö⟩) 1 1) (w':=Z1.alloc (.cells #[.int .i64 y.c.st,.slice P1 y.c.ps.length h1,.slice P2 y.c.qs.length h2,.string y.c.nt,.slice P3 y.c.wl.length h3,.int .i64 y.left] 54)) rfl rfl (by go_simp) ⟨λ_=>hS2, ?_⟩);have hM2:=(R.quiet hg1).quiet hgA;generalize hZ2:Z1.alloc (.cells #[.int .i64 y.c.st,.slice P1 y.c.ps.length h1,.slice P2 y.c.qs.length h2,.string y.c.nt,.slice P3 y.c.wl.length h3,.int .i64 y.left] 54)=Z2 at hgA harr hS2 hM2⊢;obtain⟨i0,hi0,hz0,hz1,hz2⟩:=info_parts abm;have hnew:∀j v,([.int .i64 y.c.st,.slice P1 y.c.ps.length h1,.slice P2 y.c.qs.length h2,.string y.c.nt,.slice P3 y.c.wl.length h3,.int .i64 y.left]:List æ)[j]? = ä v→Z2.cell? (Addr.add ⟨Z1.heap.size,0,ö⟩ j)=ä v:=λj v hj=>by
       have:([.int .i64 y.c.st,.slice P1 y.c.ps.length h1,.slice P2 y.c.qs.length h2,.string y.c.nt,.slice P3 y.c.wl.length h3,.int .i64 y.left]:List æ).toArray[j]? = ä v:=by rw[Z_];exact hj
       rw[Addr.add_mid,DE harr,Z'];exact this
      have hone:∀v∈([.int .i64 y.c.st,.slice P1 y.c.ps.length h1,.slice P2 y.c.qs.length h2,.string y.c.nt,.slice P3 y.c.wl.length h3,.int .i64 y.left]:List æ),v.oneCell'=true:=λv hv=>by simp only[c_,alq,or_false]at hv;obtain rfl|rfl|rfl|rfl|rfl|rfl:=hv <;> rfl
      have U:=hM2.parts;rw[hlk]at U;have hBZ:=hM2.top;have hBle:B≤Z2.heap.size:=Ω
      have hk1:k+1≤maxLen:=by unfold maxLen;omega
      have hk2:(k+1)*104≤140737488355328:=Ω
      obtain⟨v',Z3,r2,hp2,hg3,hown,_,_⟩:=cg (P:=prog) (B:={ b:=B }) Z2 29 29 54 i0 (.agg #[.int .i64 0,.slice ö 0 0,.slice ö 0 0,.string ByteArray.empty,.slice ö 0 0,.int .i64 0]) 6 104 Q6 hi0 hz0 hz1 hz2 rfl Ϛ (.slice VP k vp) k vs.flatten U (ä ⟨Z1.heap.size,0,ö⟩) 1 1 [.int .i64 y.c.st,.slice P1 y.c.ps.length h1,.slice P2 y.c.qs.length h2,.string y.c.nt,.slice P3 y.c.wl.length h3,.int .i64 y.left] rfl (.inr ⟨_,rfl,hnew⟩) hone hk1 hk2 hBle;have hPart:cJ Z2 B Z2.heap.size y [.int .i64 y.c.st,.slice P1 y.c.ps.length h1,.slice P2 y.c.qs.length h2,.string y.c.nt,.slice P3 y.c.wl.length h3,.int .i64 y.left]:=by
       have b0:=R.top;have u1:=bn (ct hrp (show B≤Z0.heap.size by omega)) hgA;have u2:=bn (ct hrq (show B≤Z0.heap.size by omega)) hgA;have u3:=bn (ct hrr (show B≤Z0.heap.size by omega)) hgA;have lt:∀{e size n:Nat} {u:æ} {xs:List æ},Z2.ownsRow B e size u n xs→∀g,u.ownBlock=ä g→g<Z2.heap.size:=λhu g e=>by obtain⟨_,cur,h3⟩:=dI hu e;exact(δ.1 h3).1
       exact⟨_,_,_,rfl,u1,u2,u3,λg hg=>by
        obtain hg|hg|hg:=hg
        ·exact lt u1 g hg
        ·exact lt u2 g hg
        ·exact lt u3 g hg⟩
      have hM3:=hM2.done hg3 hPart (pv':=v') (by rw[hlk];exact hp2) hown;obtain⟨V1,v1,rfl⟩:=aO hp2;have hS3:S18 b11 l (.slice B2 ws.length d2) (.slice VP k vp) (.slice C1 y.c.ps.length f1) (.slice C2 y.c.qs.length f2) (.slice C3 y.c.wl.length f3) y Z3:=by
       have hbn:b11<l:=hM2.top.2.1;refine hS2.kept hg3 (λe=>?_) λe=>?_
       ·obtain⟨_,cur,h⟩:=dI hM2.parts e.symm;rw[hM2.box]at h;cases h
       ·have:=hM2.plt _ e.symm;omega
      refine dQ (i:=9) Φ (cP (v :=.slice V1 (k+1) v1) (w':=Z3) rfl rfl (iU (s :=.tmp 68) (x :=.tmp 75) (t:=29) (u :=.slice VP k vp) (y :=.slice (ä ⟨Z1.heap.size,0,ö⟩) 1 1) rfl (by go_simp) (by go_simp) r2) ⟨λ_=>hS3, ?_⟩);refine dQ (i:=10) Φ (cP (v :=.pointer (ä ⟨b11,1,ö⟩)) (w':=Z3) rfl rfl (by go_simp) ⟨λ_=>hS3, ?_⟩);have sc:=(ac hS3.c 1 rfl).1;have sf:=(ac hS3.c 1 rfl).2;refine dQ (i:=11) Φ (uG (w':=Z3.setCell ⟨b11,1,ö⟩ (.slice V1 (k+1) v1)) rfl rfl (by go_simp) ⟨λh=>(by
       rw[show IY .any _ [0,1,2,3,5,6] 11=ü by kernel_rfl]at h;cases h),IX Φ (NoPanic.normal ?_)⟩)
      have hfin:FiM w B b11 cs (.slice B2 ws.length d2) ws ps (.int .i64 ((k+1:Nat):Int)) (Z3.setCell ⟨b11,1,ö⟩ (.slice V1 (k+1) v1)):=by
       have e:(ps.take k).map (jX cs)++[y]=(ps.take (k+1)).map (jX cs):=by rw[N' hlt,T_,←hfx];rfl
       rw[e]at hM3;refine⟨k+1,hlt,rfl,λx hx=>?_,_,_,_,hM3⟩;rw[N' hlt]at hx;obtain hx|hx:=q'.1 hx
       ·exact hok x hx
       ·rw[E'.1 hx];exact hokk
      clear hM3 hS3 sc sf hg3 hown hp2 r2 U hnew hone hPart hM2 hS2 harr hgA R hSZ hcop hS1 hrp hrq hrr
      go_wp2
      go_roundw
      case rel=>simpa using hfin
      case measure=>simp[Go.RowKit.intOf];omega
    ·obtain rfl:k=ps.length:=Ω
     rw[x_]at hok hM;obtain⟨VP,vp,hvp⟩:=aO hM.parts;rw[G']at hvp;subst hvp;have z0:=(ac hM.box 0 rfl).1;have z1:=(ac hM.box 1 rfl).1;have o0:=(ac hM.cz 0 rfl).1;have o1:=(ac hM.cz 1 rfl).1;have p0:=(ac hM.cz 0 rfl).2;have p1:=(ac hM.cz 1 rfl).2;have hF:=hM.fin rfl;rw[G']at hF;clear hM
     go_wp2
     obtain⟨hF1,hF2,hF3,hF4,hF5⟩:=hF;refine alc (pD rfl _ _ (w.heap.size+1) _ _ _ _ rfl hF1 underlying31 rfl Φ) rfl ?_;exact⟨hF2,.inl ⟨P'.2 hok,_,_,vs,rfl,hF3,hF4,hF5⟩⟩
def Lx (c:tCommit.den):Bool:=decide (c.2.1.length≤1048576∧c.2.2.1.length≤1048576∧c.2.2.2.2.1.length≤1048576)
def Dz (c:tCommit.den):Bool:=Lx c
def Ag (c:tCommit.den):tCommit.den:=c
def jO (p:am.den):PF:=⟨cU p.1,p.2.1.toNat⟩
def ug (l:List tCommit.den)(p:am.den):am.den:=match l.find? λx=>x.1 == p.1.1 with
 |some x=>(x,0,())
 |none=>p
def w9 (c:aD.den)(l:List tCommit.den):Bool:=decide (c.1.length≤1048576∧l.length≤1048576∧c.2.1.length≤1048576)&&(l.all Lx&&c.2.1.all λp=>decide (0≤p.2.1)&&Lx p.1)
def er (c:aD.den)(l:List tCommit.den):aD.den×Int×Unit :=
 if (c.2.1.map jO).all (jT (l.map cU))=ü then((c.1,c.2.1.map (ug l),()),0,())else(([],[],()),8,())
def F2:Lx c=ü↔YW (cU c):=by unfold Lx YW cU;rw[T?,G']
def Jo (l:List tCommit.den)(k:Int):jE (l.map cU) k=(l.find? λx=>x.1 == k).map cU:=by unfold jE;rw[List.find?_map];rfl
def Yb (l:List tCommit.den)(p:am.den):jX (l.map cU) (jO p)=jO (ug l p):=by unfold jX ug;rw[Jo];show(match (l.find? λx=>x.1 == p.1.1).map cU with|some c=>(⟨c,0⟩:PF)|none=>jO p)=_;cases l.find? λx=>x.1 == p.1.1 <;> rfl
def ahk {W:ß}{T:Nat}(l:0≤p.2.1)(h:cJ W w.heap.size T (jO p) vs):Rep W (sw w W St) (toD am p) vs:=by obtain⟨pv,g,f,rfl,C,r,j,_⟩:=h;have e:(jO p).c.wl=p.1.2.2.2.2.1.map dD:=rfl;have J:(((jO p).left:Nat):Int)=p.2.1:=aky l;rw[e,G']at j;rw[J];exact⟨[_,pv,g,_,f],[_],rfl,⟨[_],_,rfl,⟨rfl,rfl⟩,[pv],_,rfl,de (τ :=.int .i64) C (kz _),[g],_,rfl,de (τ :=.int .i64) r (kz _),[_],_,rfl,⟨rfl,rfl⟩,[f],[],rfl,de (τ:=aa) j (rW _),rfl⟩,[_],[],rfl,⟨rfl,rfl⟩,rfl⟩
def Un {w W:ß}{St:Sb}{T:Nat}:∀{l:List am.den} {vs:List (List æ)},(∀p∈l,0≤p.2.1)→bK W w.heap.size T (l.map jO) vs→Rep W (sw w W St) (chain (toD am) l) vs.flatten
 |[],[],_,_=>rfl
 |_::_,_::_,f,h=>⟨_,_,rfl,ahk (f _ (m_ ..)) h.1,Un (λp g=>f p (e_ _ g)) h.2⟩
 |[],_::_,_,h=>h.elim
 |_::_,[],_,h=>h.elim
def Cc (f:∀b o,St b o→b<w.heap.size){cs:List æ}(h:Rep w St (toD tCommit c) cs):∃pv j g,cs=[.int .i64 c.1,pv,j,.string (cU c).nt,g]∧mQ w w.heap.size (cU c) pv j g:=by
 obtain⟨c1,r1,rfl,⟨rfl,_⟩,c2,r2,rfl,p,c3,r3,rfl,l,c4,r4,rfl,⟨rfl,_⟩,c5,r5,rfl,h5,rfl⟩:=h;obtain⟨P,rfl⟩:∃v,c2=[v]:=by obtain⟨A,n,c,e,_⟩:=p;exact⟨_,e⟩
 obtain⟨J,rfl⟩:∃v,c3=[v]:=by obtain⟨A,n,c,e,_⟩:=l;exact⟨_,e⟩
 obtain⟨C,rfl⟩:∃v,c5=[v]:=by obtain⟨A,n,c,e,_⟩:=h5;exact⟨_,e⟩
 refine⟨P,J,C,rfl,gx (t :=.int .i64) Ϛ f p λr h=>rX h,gx (t :=.int .i64) Ϛ f l λr h=>rX h, ?_⟩;have:=gx (t:=aa) Ϛ f h5 λr h=>Mk h;have e:(cU c).wl.length=c.2.2.2.2.1.length:=by simp[cU]
 rw[e];exact this
def aaq (J:∀b o,St b o→b<w.heap.size){l:List am.den}(hl:∀p∈l,0≤p.2.1){va:æ}(h:Rep w St (toD (.slice am) l) [va]):∃A cap,va = .slice A l.length cap∧agV w w.heap.size A (l.map jO):=by
 obtain⟨A,cap,e0,hc,hh⟩:=dV h;cases e0;refine⟨A,cap,rfl,λr=>?_⟩;rw[G']at r;obtain h|⟨ad,ds,rfl,T,hr,g⟩:=hh
 ·have h:l.length=0:=h;omega
 ·obtain⟨b,j,sp⟩:=ad;have T:sp=none:=T;subst T;have hlen:ds.length=l.length*6:=bv hr;refine⟨b,j,rfl,(J _ _ (g 0 _ (ζ Ω)).2),λk U=>?_⟩;rw[G']at U;have C:=qh hr k U;have R:am.size=6:=rfl;rw[R]at C;obtain⟨c1,r1,e1,h1,c2,r2,rfl,⟨rfl,_⟩,rfl⟩:=C;obtain⟨pv,qv,wv,rfl,hR⟩:=Cc J h1;have cell:∀f u,(((ds.drop (k*6)).take 6))[f]? = ä u→w.cell? ⟨b,j+k*6+f,ö⟩=ä u:=λf u P=>by
   have hf:f<6:=by have:=(f_.1 P).1;rw[g_]at this;omega
   rw[aj6 hf,o_]at P;have:=(g (k*6+f) u P).1;rwa[cV,←Nat.add_assoc]at this
  rw[e1]at cell;rw[alr];have e2:(((jO l[k]).left:Nat):Int)=l[k].2.1:=aky (hl _ (j_ U));exact⟨pv,qv,wv,cell 0 _ rfl,cell 1 _ rfl,cell 2 _ rfl,cell 3 _ rfl,cell 4 _ rfl,by rw[e2];exact cell 5 _ rfl,hR⟩
def aej {t:Ty}{x:t.den}(h:RepVs w St [⟨t,x⟩] vs):∃v,vs=[v]∧RepV w St t x v:=by
 match vs,h with
 |[v],⟨f,_⟩=>exact⟨v,rfl,f⟩
def acq (c:tCommit.den)(h:Dz c=ü):MeetsD prog 38 [⟨tCommit,c⟩] (.val tCommit (Ag c)):=by obtain⟨U,T,R⟩:=F2.1 h;refine⟨⟨_,func38,rfl,Φ⟩,λw St j vs f=>?_⟩;obtain⟨v,rfl,g⟩:=aej f;unfold RepV at g;rw[Θ (show tCommit.an=ü from rfl)]at g;obtain⟨cs,rfl,hr⟩:=g;obtain⟨pv,P,J,rfl,l⟩:=Cc j hr;refine(kL c.1 pv P J (cU c).nt (cU c).ps (cU c).qs (cU c).wl w U T R l.1 l.2.1 l.2.2).mono ?_;rintro e w' ⟨p,q,r,rfl,hg,h1,h2,C⟩;refine Ou (bp hg) (ε _) ?_;unfold RepV;rw[Θ (show tCommit.an=ü from rfl)];have e:(cU c).wl=c.2.2.2.2.1.map dD:=rfl;rw[e,G']at C;exact⟨[_,p,q,_,r],rfl,[_],_,rfl,⟨rfl,rfl⟩,[p],_,rfl,de (τ :=.int .i64) h1 (kz _),[q],_,rfl,de (τ :=.int .i64) h2 (kz _),[_],_,rfl,⟨rfl,rfl⟩,[r],[],rfl,de (τ:=aa) C (rW _),rfl⟩
def Js {c:aD.den}:w9 c l=ü↔(c.1.length≤1048576∧l.length≤1048576∧c.2.1.length≤1048576)∧(∀x∈l,Lx x=ü)∧∀p∈c.2.1,0≤p.2.1∧Lx p.1=true:=by unfold w9;simp only[θ,T?,P']
def Tk (h:0≤p.2.1):0≤(ug l p).2.1:=by
 unfold ug;cases l.find? λx=>x.1 == p.1.1 with
 |some x=>exact akt 0
 |none=>exact h
def Ov {f :ß}(l:Below w.heap.size w f)(j:dz w≤dz f){t:Ty}{x:t.den}{v:æ}(g:RepV f (sw w f St) t x v){n:Int}:Hj w St (.tup (aY [.val t x,.val (.int .i64) n])) (.returned (.tuple #[v,.int .i64 n])) f :=
 ⟨_,sw w f St,rfl,l,j,OU w f St,λ_ _ h=>h,λ_ _ _ _ h=>.inl h,[v,.int .i64 n],rfl,⟨v,_,rfl,⟨v,rfl,g⟩,_,[],rfl,⟨_,rfl,by unfold RepV;rw[ω (by simp[Ty.an])];exact⟨rfl,rfl⟩⟩,rfl⟩,rfl⟩
def ah7 (c:aD.den)(l:List tCommit.den)(h:w9 c l=ü):MeetsD prog 20 [⟨aD,c⟩,⟨.slice tCommit,l⟩] (.tup (aY [.val aD (er c l).1,.val (.int .i64) (er c l).2.1])):=by
 obtain⟨⟨g1,g2,g3⟩,g4,g5⟩:=Js.1 h;refine⟨⟨_,func20,rfl,Φ⟩,λw St g vs P=>?_⟩;obtain⟨v1,v2,rfl,h1,h2⟩:=Nb P;obtain⟨A,cap,rfl,_,hcs⟩:=comsF_of g h2;unfold RepV at h1;rw[Θ (show aD.an=ü from rfl)]at h1;obtain⟨cells,rfl,c1,r1,rfl,q1,c2,r2,rfl,q2,rfl⟩:=h1;obtain⟨cw,rfl⟩:∃v,c1=[v]:=by obtain⟨A,n,c,e,_⟩:=q1;exact⟨_,e⟩
 obtain⟨cp,rfl⟩:∃v,c2=[v]:=by obtain⟨A,n,c,e,_⟩:=q2;exact⟨_,e⟩
 obtain⟨A2,r,rfl,R⟩:=aaq g (λp j=>(g5 p j).1) q2;have:=Ya (l.map cU) (c.2.1.map jO) c.1 g1 (by rw[G'];exact g2) (by rw[G'];exact g3) (λx J=>by
  obtain⟨y,C,rfl⟩:=a_.1 J;exact F2.1 (g4 y C)) (λx J=>by
  obtain⟨y,C,rfl⟩:=a_.1 J;exact F2.1 (g5 y C).2) w A A2 cap r cw hcs R (gx (t :=.int .i64) Ϛ g q1 λds h=>rX h)
 rw[G',G']at this;refine this.mono ?_;rintro e w' ⟨hb,⟨f,wv,pv,vs,rfl,ho1,U,j⟩|⟨f,rfl⟩⟩
 ·have e:er c l=((c.1,c.2.1.map (ug l),()),0,()):=by unfold er;rw[Θ f]
  rw[e];refine Ov hb (ε _) ?_;unfold RepV;rw[Θ (show aD.an=ü from rfl)];have hm:(c.2.1.map jO).map (jX (l.map cU))=(c.2.1.map (ug l)).map jO:=by rw[V_,V_];exact aj5 λp _=>Yb l p
  rw[hm]at j;have T:=Un (St:=St) (l:=c.2.1.map (ug l)) (λp j=>by
   obtain⟨q,hq,rfl⟩:=a_.1 j;exact Tk (g5 q hq).1) j
  refine⟨[wv,pv],rfl,[wv],[pv],rfl,de (τ :=.int .i64) ho1 (kz _),[pv],[],rfl, ?_,rfl⟩;exact de (τ:=am) (by rw[G'];exact U) T
 ·have e:er c l=(([],[],()),8,()):=by unfold er;rw[ω (by rw[f];simp)]
  rw[e];refine Ov hb (ε _) ?_;unfold RepV;rw[Θ (show aD.an=ü from rfl)];exact⟨[.slice ö 0 0,.slice ö 0 0],rfl,[_],_,rfl,de (e:=3) (τ :=.int .i64) (l:=[]) (xs:=[]) ⟨rfl,.inl ⟨rfl,rfl⟩⟩ rfl,[_],[],rfl,de (e:=3) (τ:=am) (l:=[]) (xs:=[]) ⟨rfl,.inl ⟨rfl,rfl⟩⟩ rfl,rfl⟩
