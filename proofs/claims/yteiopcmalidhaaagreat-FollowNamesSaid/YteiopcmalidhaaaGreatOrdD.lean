/- graph. -/
import Derived.Test.YteiopcmalidhaaaGreatOrdC
import Derived.Test.YteiopcmalidhaaaGreatChecked
import Derived.WalkKit
import Derived.Deep.OwnRows
import Derived.BigQuiet
import Derived.Deep.MidRow
import Derived.Maps.RangeWalk
set_option linter.all false
namespace Go.Proofs.YteiopcmalidhaaaGreat
namespace Abs
open Go Go.Proofs Go.RowKit Go.Maps Tryz
def ags (w:World)(B b f:Nat)(c:CK):Prop :=
 ∃A p R C m2 s3 P r J,w.cell? ⟨b,f,none⟩=some (.int .i64 c.1)∧w.cell? ⟨b,f+1,none⟩=some (.slice A c.2.length p)∧w.cell? ⟨b,f+2,none⟩=some (.slice R C m2)∧w.cell? ⟨b,f+3,none⟩=some (.string s3)∧w.cell? ⟨b,f+4,none⟩=some (.slice P r J) ∧
  (0<c.2.length→∃g l,A=some ⟨g,l,none⟩∧g<B∧∀j (h:j<c.2.length),w.cell? ⟨g,l+j,none⟩=some (.int .i64 c.2[j]))
def ael (w:World)(B:Nat)(A:Option Addr)(g:List CK):Prop:=0<g.length→∃b f,A=some ⟨b,f,none⟩∧b<B∧∀k (h:k<g.length),ags w B b (f+k*5) g[k]
structure GoodK (cs:List CK):Prop where
 n:cs.length≤1024
 st:StL cs
 ps:∀c∈cs,c.2.length≤512
 ws:∀c∈cs,(Lit.int .i64 c.1).wf=true
 wp:∀c∈cs,∀p∈c.2,(Lit.int .i64 p).wf=true
def wsP (f:List CK)(k:Nat):List Int:=(f.take k).map (λc=>(c.2.length:Int))++List.replicate (f.length-k) 0
def rdP (f:List CK)(k:Nat):List Int:=((f.take k).filter λc=>c.2.isEmpty).map (·.1)
variable{cs:List CK}{k base:Nat}{w wr:World}{zs f:List Int}{v:Value}
def aba (h:k<cs.length):(wsP cs k).set k (cs[k].2.length:Int)=wsP cs (k+1):=by
 unfold wsP;have f:((cs.take k).map λc=>(c.2.length:Int)).length=k:=by simp;omega
 rw[ajm _ _ Ω,f,ai0,show cs.length-k=(cs.length-(k+1))+1 by omega,o?,List.set_cons_zero,v_ h,D?,w_];rfl
def aen (h:k<cs.length):(intsI (wsP cs k))[k]? = some (.int .i64 0):=by
 unfold wsP;have f:((cs.take k).map λc=>(c.2.length:Int)).length=k:=by simp;omega
 refine jE ?_;rw[Q' Ω,f,ai0,ajf,β Ω]
def abb (cs:List CK):wsP cs cs.length=wsF cs []:=by unfold wsP wsF wsK;rw[J_,ai0];simp
def MB (h:k<cs.length):rdP cs (k+1)=if cs[k].2.isEmpty then rdP cs k++[cs[k].1]else rdP cs k:=by unfold rdP;rw[v_ h,aiE,D?];rw[ajX,List.filter_nil];cases cs[k].2.isEmpty <;> simp
def abB (cs:List CK):rdP cs cs.length=rdF cs []:=by unfold rdP rdF zO;rw[J_];congr 1;apply l?;intro c _;cases c.2 <;> simp
def aeE (cs:List CK)(k:Nat):(rdP cs k).length≤cs.length:=by unfold rdP;rw[o_];exact Θ (w? ..) Ξ
def JJ {cs:List CK}(f:GoodK cs):∀k,k≤cs.length→(qG cs k).length≤k*512
 |0,_=>by simp[qG]
 |k+1,h=>by have:=JJ f k Ω;have g:=f.ps cs[k] (e_ Ω);unfold qG at this⊢;rw[ajj,ajx,P'];simp only[aiL,List.flatMap_nil,m?,o_];rw[υ,δ (show k<cs.length by omega)];simp only[s?];omega
def AJ {f:Array Oper}{au:List Oper}{o:Oper}{a:Act}{Q:Exit→Act→World→Prop}(p:o.guard=none){x y:Operand}(U:o.op = .store 3 x y){b i:Nat}{z:Int}(T:a.eval x = .pointer (some ⟨b,i,none⟩))(R:a.eval y = .int .i64 z)
  (hc:(w.cell? ⟨b,i,none⟩).isSome=true) (hf:w.frozen? ⟨b,i,none⟩=false) (h:∀r,r=w.setCell ⟨b,i,none⟩ (.int .i64 z)→wpList prog f Q au (a.put o.dst undef) r):wpList prog f Q (o::au) a w:=by
 obtain⟨i0,hi,J,l,C⟩:=info_parts Te;refine ajE p λK hK=>?_;have:=run_storeCells_cells (P:=prog) b i [.int .i64 z] 0 w (λj g=>by simp at g;subst g;exact hc) (λj g=>by simp at g;subst g;exact hf) (by simp[Value.oneCell']);unfold Oper.wp execOp;simp only[F?]at this;simp[U,T,R,Instr.storeAt,Instr.sureAddr,ξ,a_,storeVar,sizeOf,typeInfo,hi,l,Value.cells,this];exact hK _ _ (h _ rfl)
def OEnv.apart {j l u p:Value}{X:Nat}(r:∀g,j.ownBlock=some g∨l.ownBlock=some g→g<wr.heap.size)(C:∀g,u.ownBlock=some g→¬(j.ownBlock=some g∨l.ownBlock=some g))(f:p.ownBlock=u.ownBlock∨p.ownBlock=some X)(J:wr.heap.size≤X) :
  ∀g,p.ownBlock=some g→¬(j.ownBlock=some g∨l.ownBlock=some g):=λg e h=>by
 obtain h1|h1:=f
 ·exact C g (h1.symm.trans e) h
 ·have:=r g h;rw[h1]at e;cases e;omega
def MR {j:World}{u l:Value}(g:w.ownsInts base 3 .i64 u zs)(h:j.ownsRow base 3 1 l (zs.length+1) (intsI (zs++[(k:Int)])))(p:k<9223372036854775808):j.ownsInts base 3 .i64 l (zs++[(k:Int)]) :=
 ⟨by simpa[intsI]using h,λz f=>by
  obtain f|f:=O'.1 f
  ·exact g.2 z f
  ·simp at f;subst f;exact WalkArith.wf_i64 Ω⟩
def OEnv.pushO {p:World}{n:Nat}{ws:List Int}{C l f:Value}{D:DataW Unit}{o:Obj}(h:OEnv w wr n ws C l k D)(r:∀g,l.ownBlock=some g→w.heap.size+2≤g)(J:(wr.alloc o).grownBy p l.ownBlock)(P:dz (wr.alloc o)≤dz p)
  (j:f.ownBlock=l.ownBlock∨f.ownBlock=some (wr.alloc o).heap.size):OEnv w p n ws C f k D :=
 h.turn ((i_ wr o _).trans J) P (λg e=>⟨r g e,.inr e⟩) λg e=>by
  obtain e|e:=e
  ·exact .inl (.inl e)
  ·obtain h1|h1:=j
   ·exact .inl (.inr (h1.symm.trans e))
   ·rw[h1]at e;cases e;exact .inr Ψ
def Yb (h:w.ownsInts base 3 .i64 v zs):∃A c,v = .slice A zs.length c:=by
 rcases h.1.2 with⟨rfl,f⟩|⟨g,cap,j,rfl,_⟩
 ·exact⟨none,0,by rw[f]⟩
 ·exact⟨_,_,rfl⟩
def HF {n:Nat}{e:TypeId}{f:List Value}(h:w.ownsRow base e 1 v n f):∃A c,v = .slice A n c:=by
 rcases h.2 with⟨rfl,j⟩|⟨g,cap,l,rfl,_⟩
 ·exact⟨none,0,by rw[j]⟩
 ·exact⟨_,_,rfl⟩
def OEnv.start (w:World)(n:Nat)(f:n≤1024):OEnv w ((w.alloc (.cells (Go.madeCells #[.int .i64 0] n) 3)).alloc (.map #[] 0)) n (List.replicate n 0) (.slice none 0 0) (.slice none 0 0) 0 (.map []):=by
 refine⟨((Below.refl _ _).alloc (ζ _) _).alloc Ψ _,ζ _,Ψ,Ψ, ?_, ?_, ?_⟩
 ·refine World.ownsRow.alloc ⟨by simp[intsI],.inr ⟨_,n,_,rfl,ζ _,z_ _ _,ζ _,by unfold maxLen;omega,by simp[Go.madeCells], ?_⟩⟩ _;rw[Go.toList_madeCells_one];simp[intsI]
 ·have:=World.ownsGroups_made (H:=Unit) (w.alloc (.cells (Go.madeCells #[.int .i64 0] n) 3)) prog 3 3 .i64;simpa using this
 ·have:=World.Shuns_made (w.alloc (.cells (Go.madeCells #[.int .i64 0] n) 3)) λg=>(Value.slice none 0 0).ownBlock=some g∨(Value.slice none 0 0).ownBlock=some g;simpa using this
def Xp (h:wr.ownsRow base 3 1 v f.length (intsI f))(R:f.Pairwise (· < ·))(hl:f.length≤1048576) :
  Calls prog 60 #[v] wr λe j=>e = .returned (.tuple #[])∧j.ownsRow base 3 1 v f.length (intsI f)∧wr.grownBy j v.ownBlock∧dz wr≤dz j:=by
 rcases h.2 with⟨rfl,h0⟩|⟨g,cap,U,rfl,P,l,C,J,r,p⟩
 ·refine(UD none 0 wr).mono ?_;rintro e j ⟨rfl,rfl⟩;exact⟨rfl,h,⟨rfl,rfl,rfl,ζ _,λ_ _ _=>rfl⟩,ζ _⟩
 ·have T:Sort.Holds (Value.int .i64) wr g 0 f.toArray:=holds_of_blockI l (by simpa[intsI]using p);refine(PB g cap f wr T (η.1 l).1 Ω).mono ?_;rintro e j ⟨rfl,n,os,rfl⟩;rw[LY R];exact⟨rfl,ownsRow_sortedI rfl P l C J r,grownBy_sortedI _,(by first|exact Nat.le_add_right _ _|exact c_ _)⟩
def aeD (h:Rdy w base v f)(q:Nat)(o:Obj):Rdy ((w.drewN q).alloc o) base v f :=
 h.kept (row:=none) ((show w.grownBy (w.drewN q) none from⟨rfl,rfl,rfl,ζ _,λ_ _ _=>rfl⟩).trans (i_ (w.drewN q) o none)) (λ_ _ e=>by cases e)
def L1 (w:World)(cs:List CK)(f i:Value)(wr:World):Prop :=
 ∃k:Nat,k≤cs.length∧i = .int .i64 k∧∃D,OEnv w wr cs.length (wsP cs k) f (.slice none 0 0) (qG cs k).length D∧GS D (qG cs k)∧wr.ownsRow (w.heap.size+2) 3 1 f (rdP cs k).length (intsI (rdP cs k))
def L2 (w l:World)(cs:List CK)(k:Nat)(f:Value)(g:Nat)(box:Obj)(j:Value)(wr:World):Prop :=
 ∃i:Nat,i≤(cs.getD k (0,[])).2.length∧j = .int .i64 i∧wr.heap[g]? = some box∧∃D,OEnv w wr cs.length (wsP cs (k+1)) f (.slice (some ⟨g,0,none⟩) 0 0) (BQ cs k i).length D∧GS D (BQ cs k i)∧wr.ownsRow (w.heap.size+2) 3 1 f (rdP cs k).length (intsI (rdP cs k))
def lenOf:Value→Nat
 |.slice _ n _=>n
 |_=>0
def L3 (w:World)(cs:List CK)(q:Nat)(D:DataW Unit)(f j:Value)(wr:World):Prop :=
 ∃k:Nat,k≤cs.length∧(cY cs k []).length=k∧OEnv w wr cs.length (wsF cs (cY cs k [])) f j q D∧Rdy wr (w.heap.size+2) f (rdF cs (cY cs k []))∧wr.ownsRow (w.heap.size+2) 3 1 j k (intsI (cY cs k []))∧∀g,f.ownBlock=some g→j.ownBlock≠some g
def stJ (cs:List CK)(g:List Int)(s:Int)(f:List Int)(j:Nat):List Int×List Int:=((chF cs s).take j).foldl (C1 cs) (wsF cs g,f)
def L4 (w:World)(cs:List CK)(q:Nat)(D:DataW Unit)(C:List Int)(s:Int)(r:List Int)(u p:Value)(l:List Int)(f i:Value)(wr:World):Prop :=
 ∃j:Nat,j≤(chF cs s).length∧i = .int .i64 j∧OEnv w wr cs.length (stJ cs C s r j).1 f p q D∧Rdy wr (w.heap.size+2) f (stJ cs C s r j).2∧(∃g J cap,f = .slice (some ⟨g,J,none⟩) (stJ cs C s r j).2.length cap) ∧
  wr.ownsRow (w.heap.size+2) 3 1 p l.length (intsI l)∧(∀g,f.ownBlock=some g→p.ownBlock≠some g)∧wr.ownsInts (w.heap.size+2) 3 .i64 u ((chF cs s).map Int.ofNat)∧∀g,u.ownBlock=some g→f.ownBlock≠some g∧p.ownBlock≠some g
set_option maxHeartbeats 4000000 in
set_option maxRecDepth 1000000 in
def order_walk (cs:List CK)(hg:GoodK cs)(w:World)(A:Option Addr)(c:Nat)(hc:cs.length≤c)(hcs:ael w w.heap.size A cs) :
  Calls prog 34 #[.slice A cs.length c] w λe w'=>∃v,e = .returned v∧Below w.heap.size w w'∧dz w≤dz w'∧w'.ownsRow w.heap.size 3 1 v (wH cs).length (intsI (wH cs)):=by
 have hn:=hg.n;have hmk:=run_make_row' (P:=prog) 33 3 (.int .i64 0) 8 adY Te rfl .i64 .i64 cs.length Ω Ω;have hmm:=@run_makeMap prog
 go_enter func34,ntmps34
 go_wp2
 go_loopw [5,22] (λvr i wr=>L1 w cs vr i wr) (λ_ i _=>cs.length-(intOf i).toNat)
 case atStart =>refine⟨0,c_ _,rfl,.map [], ?_,GS.nil,M_ _ _ _ _⟩;have:=OEnv.start w cs.length hn;simpa[wsP,qG]using this
 case round=>
  obtain⟨k,hk,rfl,D,l,hrd,hrow⟩:=hrel;by_cases hlt:k<cs.length
  ·obtain⟨b,U,rfl,hbl,hcell⟩:=hcs Ω;obtain⟨PA,pc,A2,n2,m2,s3,A4,n4,m4,q0,q1,q2,q3,q4,hpar⟩:=hcell k hlt;have tr:∀o v,w.cell? ⟨b,o,none⟩=some v→wr.cell? ⟨b,o,none⟩=some v:=λo v h=>(l.bl.cell (p:=⟨b,o,none⟩) hbl).trans h;have c0:=tr _ _ q0;have c1:=tr _ _ q1;have c2:=tr _ _ q2;have c3:=tr _ _ q3;have c4:=tr _ _ q4;clear q0 q1 q2 q3 q4 tr hcell;have hsz:=l.sz;have hvl:∀g,u5.ownBlock=some g→g<wr.heap.size:=λg e=>(hrow.lt g e).2
   go_upto_region 7 with fail
   generalize hbx:Obj.cells #[Value.int IntKind.i64 cs[k].fst,Value.slice PA cs[k].snd.length pc,Value.slice A2 n2 m2,Value.string s3,Value.slice A4 n4 m4] 41=box;have henvI:=l.turn (vr':=u5) (vo' :=.slice (some ⟨wr.heap.size,0,none⟩) 0 0) (i_ wr box none) (ζ _) (λ_ e=>by cases e) λg e=>e.elim (λe=>.inl (.inl e)) λe=>by cases e;exact .inr (ζ _)
   have hbI:(wr.alloc box).heap[wr.heap.size]? = some box:=z_ _ _;have hrowI:=hrow.alloc box;have hsI:(wr.alloc box).heap.size=wr.heap.size+1:=by simp
   generalize hwi:wr.alloc box=wi at henvI hbI hrowI hsI⊢;have hwc:wi.cell? ⟨w.heap.size,k,none⟩=some (.int .i64 0):=(henvI.wt.cellAt k Ω).trans (aen hlt);have hfz:wi.frozen? ⟨w.heap.size,k,none⟩=false:=henvI.wt.frozenAt k;have d1:wi.cell? ⟨wr.heap.size,1,none⟩=some (.slice PA cs[k].2.length pc):=by rw[←hbx]at hbI;simp[World.cell?,hbI]
   go_upto_region 8 with(first
    |(refine AJ rfl rfl (b:=w.heap.size) (i:=k) rfl rfl (by rw[hwc];rfl) hfz ?_;intro w1 hw1)
    |go_in)
   have henv1:OEnv w w1 cs.length (wsP cs (k+1)) u5 (.slice (some ⟨wr.heap.size,0,none⟩) 0 0) (qG cs k).length D:=by have:=henvI.setW k (cs[k].2.length:Int);rw[aba hlt]at this;rw[hw1];exact this
   have hb1:w1.heap[wr.heap.size]? = some box:=by rw[hw1,heap_setCell_other _ _ _ _ Ξ];exact hbI
   have hrow1:w1.ownsRow (w.heap.size+2) 3 1 u5 (rdP cs k).length (intsI (rdP cs k)):=by rw[hw1];refine ownsRow_setCell_other hrowI (λe=>?_) _;have:w.heap.size+2≤w.heap.size:=(hrowI.lt _ e).1;omega
   clear hw1 henvI hbI hrowI hwc hfz d1 c0 c1 c2 c3 c4;have d1:w1.cell? ⟨wr.heap.size,1,none⟩=some (.slice PA cs[k].2.length pc):=by rw[←hbx]at hb1;simp[World.cell?,hb1]
   have hcsk:cs.getD k (0,[])=cs[k]:=by rw[υ,δ hlt];rfl
   have hkp:=JJ hg k hk;have hpk:=hg.ps cs[k] (e_ hlt)
   go_wp2
   generalize hcb:wr.heap.size=cb at *;have hvlc:=hvl;clear hwi hcb
   go_loopw [36] (λj wx=>L2 w wi cs k u5 cb box j wx) (λj _=>cs[k].2.length-(intOf j).toNat)
   case atStart=>exact⟨0,c_ _,rfl,hb1,D,by rw[HA];exact henv1,by rw[HA];exact hrd,hrow1⟩
   case round=>
    clear hb1 hrow1 henv1 d1;obtain⟨i,hi,rfl,hb2,D2,r,hrd2,hrow2⟩:=hrel;rw[hcsk]at hi;by_cases hi2:i<cs[k].2.length
    ·obtain⟨pb,po,rfl,hpb,hpc⟩:=hpar Ω;have hpc:=hpc i hi2;have hpx:wr.cell? ⟨pb,po+i,none⟩=some (.int .i64 cs[k].2[i]):=(r.bl.cell (p:=⟨pb,po+i,none⟩) hpb).trans hpc;have hkey:keyOf prog 3 (.int .i64 cs[k].2[i])=some (.int .i64 cs[k].2[i]):=keyOf_int_mk aeq (hg.wp _ (e_ hlt) _ (e_ hi2));have hql:(BQ cs k i).length≤1048576:=by
      unfold BQ;rw[P',o_,hcsk,l_];omega
     have hcbl:cb<wr.heap.size:=(η.1 hb2).1;have hvl2:∀g,u5.ownBlock=some g∨(Value.slice (some ⟨cb,0,none⟩) 0 0).ownBlock=some g→g<wr.heap.size:=λg e=>e.elim (λe=>(hrow2.lt g e).2) λe=>by cases e;exact hcbl
     go_wp2_with (first
      |(at_lookup;refine wpList_lookup_groups_shuns _ rfl _ _ 101 rfl 3 33 3 .i64 YR I5 (WL _) (w.heap.size+2) (w.heap.size+1) _ D2 rfl r.gr (by unfold maxLen;omega) _ _ rfl hkey ?_;intro u zs hat J hzl hback hsu)
      |(at_builtin;refine rM _ rfl _ _ rfl (w.heap.size+2) u zs rfl (J.1.alloc _) ⟨wr.heap.size,0,none⟩ (k:Int) rfl (by rw[rn (z_ _ _)];rfl) Ω (by simp;have:=r.sz;omega) ?_;intro v' w3 hown' R hloc hdr)
      |(refine wh _ rfl _ _ _ rfl hkey r.gr (by unfold maxLen;omega) J r.sh (OEnv.apart hvl2 (hsu _ r.sh) hloc Ψ) hback rfl rfl rfl ((i_ _ _ _).trans R) (MR J hown' Ω) Ξ (hloc.imp id λh=>⟨_,h,Ψ⟩) ?_;intro w4 hown4 hgrow4 hsh4 hdr4)
      |go_in)
     go_roundw
     case rel=>
      have hall:=(i_ wr (Obj.cells #[Value.int .i64 (k:Int)] 3) _).trans R;have hun:=hsu _ r.sh;have hzs:=hrd2.zs hat J;have hd:=(MR J hown' Ω).datum_pos (H:=Unit) Ψ;have hps:=UZ cs k i (by rw[hcsk];exact hi2);have hx:(cs.getD k (0,[])).2[i]'(by rw[hcsk];exact hi2)=cs[k].2[i]:=by simp only[hcsk]
      rw[hx]at hps;refine⟨i+1,by rw[hcsk];omega,Ψ, ?_,D2.put (.int .i64 cs[k].2[i]) (rowDatum .i64 v' (zs++[(k:Int)])), ?_, ?_,UL hrow2 (λg e e'=>hun g e (.inl e')) hall hgrow4⟩
      ·rw[hgrow4.block cb (k_ hcbl hall.size) (λe=>by cases e;omega),hall.block cb hcbl λe=>hun cb e.symm (.inr rfl)];exact hb2
      ·rw[hps,P'];exact r.group (λg e=>(J.1.lt g e).1) hall hdr hgrow4 hdr4 hown4 hsh4
      ·rw[hps,hd,hzs];exact hrd2.put _ k (YR.key hkey)
     case measure=>simp[intOf];omega
    ·obtain rfl:i=cs[k].2.length:=Ω
     have d1:wr.cell? ⟨cb,1,none⟩=some (.slice PA cs[k].2.length pc):=by rw[←hbx]at hb2;simp[World.cell?,hb2]
     have d0:wr.cell? ⟨cb,0,none⟩=some (.int .i64 cs[k].1):=by rw[←hbx]at hb2;simp[World.cell?,hb2]
     have hps:BQ cs k cs[k].2.length=qG cs (k+1):=by rw[UY,hcsk]
     rw[hps]at r hrd2;have hrl:=aeE cs k;by_cases hm:cs[k].2.length=0
     ·have hm':((cs[k].2.length:Nat):Int)=0:=Ω
      have hmb:(((cs[k].2.length:Nat):Int) == 0)=true:=beq_iff_eq.2 hm'
      go_wp2_with (first
       |(at_builtin;refine rM _ rfl _ _ rfl (w.heap.size+2) u5 (rdP cs k) rfl (hrow2.alloc _) ⟨wr.heap.size,0,none⟩ cs[k].1 rfl (by rw[rn (z_ _ _)];rfl) Ω (by simp;have:=r.sz;omega) ?_;intro v' w3 hown' R hloc hdr)
       |go_in)
      go_roundw
      case rel=>
       have he:cs[k].2.isEmpty=true:=by rw[ajW];exact U' hm
       refine⟨k+1,hlt,Ψ,D2, ?_,hrd2, ?_⟩
       ·refine r.turn ((i_ _ _ _).trans R) hdr (λg e=>⟨(hrow2.lt g e).1,.inl e⟩) λg e=>?_;obtain e|e:=e
        ·obtain h1|h1:=hloc
         ·exact .inl (.inl (h1.symm.trans e))
         ·rw[h1]at e;cases e;exact .inr Ψ
        ·cases e
       ·rw[MB hlt,β he,P'];exact hown'
      case measure=>simp[intOf];omega
     ·have hm':¬((cs[k].2.length:Nat):Int)=0:=Ω
      have hmb:(((cs[k].2.length:Nat):Int) == 0)=false:=n?.2 hm'
      go_wp2
      go_roundw
      case rel=>
       have he:cs[k].2.isEmpty=false:=by cases h:cs[k].2 with|nil=>rw[h]at hm;exact(hm rfl).elim|cons _ _=>rfl
       refine⟨k+1,hlt,Ψ,D2, ?_,hrd2, ?_⟩
       ·exact r.turn (row:=none) ⟨rfl,rfl,rfl,ζ _,λ_ _ _=>rfl⟩ (ζ _) (λ_ e=>by cases e) λg e=>e.elim (λe=>.inl (.inl e)) λe=>by cases e
       ·rw[MB hlt,he,B' Ϛ];exact hrow2
      case measure=>simp[intOf];omega
  ·obtain rfl:k=cs.length:=Ω
   rw[abb]at l;rw[abB]at hrow;have hpl:=JJ hg cs.length (ζ _)
   go_wp2_with (first
    |(go_at_call 60;refine(Xp hrow (JE hg.st _) (by have:=XK cs [];omega)).mono ?_;rintro e w1 ⟨rfl,hrow1,hgr1,hdr1⟩)
    |go_in)
   have henv1:=l.turn (vr':=u5) (vo' :=.slice none 0 0) hgr1 hdr1 (λg e=>⟨(hrow.lt g e).1,.inl e⟩) λg e=>.inl e;have hdl:=hg.n;clear hrow l hgr1 hdr1 hmk hmm hlt hk
   go_loopw [5,6] (λvr vo wx=>L3 w cs (qG cs cs.length).length D vr vo wx) (λ_ vo _=>cs.length-lenOf vo)
   case atStart=>exact⟨0,c_ _,rfl,henv1,Rdy.of hrow1,M_ _ _ _ _,λg e=>by simp[Value.ownBlock]⟩
   case round=>
    clear henv1 hrow1;obtain⟨k,hk,hkl,l,T,C,hsep⟩:=hrel;have hcl:=ClK.take hg.st k;generalize hos:cY cs k []=os at *;cases hr:rdF cs os with
    |nil=>
     rw[hr]at T;obtain⟨VA,vc,rfl⟩:∃A c,u5 = .slice A 0 c:=by
      rcases T with⟨rfl,_⟩|⟨g,U,cap,cur,rfl,_⟩
      ·exact⟨_,_,rfl⟩
      ·exact⟨_,_,rfl⟩
     go_wp2
     go_ret
     have he:wH cs=os:=by rw[←hos];exact MX hk (by rw[hos];exact hr)
     rw[he,hkl];exact⟨_,rfl,l.bl,l.dr,C.1,C.2.imp id λ⟨g,cap,cur,a,b,c⟩=>⟨g,cap,cur,a,Ω,c⟩⟩
    |cons s tl=>
     rw[hr]at T;obtain⟨g,U,cap,cur,rfl,r1,r2,r3,r4,r5,r6⟩:∃g U cap cur,u5 = .slice (some ⟨g,U,none⟩) (tl.length+1) cap∧tl.length+1≤cap∧cap≤maxLen∧w.heap.size+2≤g∧wr.heap[g]? = some (.cells cur 3 (0,0))∧U+cap≤cur.size∧∀j x,(s::tl)[j]? = some x→cur[U+j]? = some (.int .i64 x):=by
      rcases T with⟨_,h⟩|h
      ·cases h
      ·exact h
     have hs0:wr.cell? ⟨g,U,none⟩=some (.int .i64 s):=by rw[rn r4];exact r6 0 s rfl
     have hgl:g<wr.heap.size:=(η.1 r4).1;have hkn:k<cs.length:=by have hnx:=(hcl.next hg.st hr).len;rw[P',hkl]at hnx;exact hnx
     obtain⟨cS,gS,eS,nS,zS⟩:=ClK.head hr;have hkey:keyOf prog 3 (.int .i64 s)=some (.int .i64 s):=keyOf_int_mk aeq (eS ▸ hg.ws cS gS);have htl:=XK cs os;rw[hr,r_]at htl;have hosl:os.length≤1048576:=Ω
     go_upto_region 20 with fail
     obtain⟨off5,hoff⟩:∃o,o=if cap=1 then U else U+1:=⟨_,rfl⟩
     have ha:(if cap=1 then some (⟨g,U,none⟩:Addr)else some ⟨g,U+1,none⟩)=some ⟨g,off5,none⟩:=by rw[hoff];split <;> rfl
     rw[ha];have hrdy5:Rdy wr (w.heap.size+2) (.slice (some ⟨g,off5,none⟩) tl.length (cap-1)) tl:=by refine .inr ⟨g,off5,cap-1,cur,rfl,Ω,Ω,r3,r4,by rw[hoff];split <;> omega,λj x hx=>?_⟩;have hj:=(N'.1 hx).1;rw[hoff,B' Ω,show U+1+j=U+(j+1)by omega];exact r6 (j+1) x (by simpa using hx)
     have henv5:OEnv w wr cs.length (wsF cs os) (.slice (some ⟨g,off5,none⟩) tl.length (cap-1)) u6 (qG cs cs.length).length D:=l.turn (row:=none) ⟨rfl,rfl,rfl,ζ _,λ_ _ _=>rfl⟩ (ζ _) (λ_ e=>by cases e) λg e=>.inl e;have hsg:u6.ownBlock≠some g:=hsep g rfl;have hu6:lenOf u6=k:=by obtain⟨A,c,e⟩:=HF C;rw[e];rfl
     rw[←hkl]at C;clear ha T hs0 hsep l hoff r6 r5 r1 r2
     go_wp2_with (first
      |(at_builtin;refine rM _ rfl _ _ rfl (w.heap.size+2) u6 os rfl (C.alloc _) ⟨wr.heap.size,0,none⟩ s rfl (by rw[rn (z_ _ _)];rfl) hosl (by simp;have:=henv5.sz;omega) ?_;intro v' w3 hown' R hloc hdr)
      |(at_lookup;refine wpList_lookup_groups_shuns _ rfl _ _ 101 rfl 3 33 3 .i64 YR I5 (WL _) (w.heap.size+2) (w.heap.size+1) _ D rfl (henv5.pushO (λg e=>(C.lt g e).1) R hdr hloc).gr (by unfold maxLen;omega) _ _ rfl hkey ?_;intro u zs hat J hzl hback hsu;obtain⟨UA,uc,rfl⟩:=Yb J)
      |go_in)
     have henv6:=henv5.pushO (λg e=>(C.lt g e).1) R hdr hloc;have hzs:=hrd.zs hat J;rw[TI]at hzs;subst hzs;have hus:=hsu _ henv6.sh;have hrdy6:=(hrdy5.kept (i_ wr (Obj.cells #[Value.int .i64 s] 3) none) λ_ _ e=>by cases e).kept R λg' e e'=>by cases e;exact hsg e'
     have hlo:g<wr.heap.size+1:=Ω
     have hsep6:v'.ownBlock≠some g:=by
      obtain h|h:=hloc
      ·rw[h];exact hsg
      ·rw[h];simp;omega
     clear hat hzl hback hsu hloc hdr R C hrdy5 henv5;have hml:((chF cs s).map Int.ofNat).length=(chF cs s).length:=o_ ..;rw[hml]at J hus⊢;have hbig:(chF cs s).length≤1048576:=by have e:=Y' List.length (TI cs s);rw[hml]at e;have:=w? (λx:Int×Nat=>x.1 == s) (qG cs cs.length);unfold chl at e;rw[o_]at e;omega
     go_loopw [5,77] (λvr i wx=>L4 w cs (qG cs cs.length).length D os s tl (.slice UA (chF cs s).length uc) v' (os++[s]) vr i wx) (λ_ i _=>(chF cs s).length-(intOf i).toNat)
     case atStart =>refine⟨0,c_ _,rfl,henv6,hrdy6,⟨g,off5,cap-1,rfl⟩,by rw[P'];exact hown',λg' e e'=>by cases e;exact hsep6 e',J,λg' e=>⟨λe'=>hus g' e (.inl e'),λe'=>hus g' e (.inr e')⟩⟩
     case round=>
      clear henv6 hrdy6 hown' hsep6 J hus hsg hgl hlo;obtain⟨j,hj,rfl,l,T,⟨g1,o1,c1,rfl⟩,C,hsep,J,hus⟩:=hrel;have I:=InK.all hg.st hr j hj;change InK cs os s tl j (stJ cs os s tl j)at I;by_cases hj2:j<(chF cs s).length
      ·obtain⟨hin,hx1⟩:=I.pos hr hj2;have hx2:(stJ cs os s tl j).1.getD (chF cs s)[j] 0≤512:=by
        rw[I.ws _ hin];have h1:=hg.ps _ (e_ hin);have h2:wsK os cs[(chF cs s)[j]]≤cs[(chF cs s)[j]].2.length:=akk;omega
       have hst:stJ cs os s tl (j+1)=C1 cs (stJ cs os s tl j) (chF cs s)[j]:=by unfold stJ;rw[v_ hj2,List.foldl_append];rfl
       have hrl:=I.rlen hr;have hwl:=I.len;have hasc:=I.asc;clear I;generalize hS:stJ cs os s tl j=S at *;obtain⟨ws,f⟩:=S;generalize hij:(chF cs s)[j]=ij at *;generalize hxx:ws.getD ij 0=xx at *;have hwx:ws[ij]? = some xx:=by
        have hlt:ij<ws.length:=by rw[show ws.length=cs.length from hwl];exact hin
        rw[←hxx,υ,δ hlt];rfl
       dsimp only at l T hsep hus hrl hwl hasc J;obtain⟨gu,rfl⟩:∃gu,UA=some ⟨gu,0,none⟩:=by
        rcases J.1.2 with⟨_,h0⟩|⟨gu,cap,cur,hv,_⟩
        ·omega
        ·injection hv with h1;exact⟨gu,h1⟩
       have hucell:wr.cell? ⟨gu,j,none⟩=some (.int .i64 ij):=by have hoi1:=J.1;rw[hml]at hoi1;rw[hoi1.cellAt j Ω,A_,A_,δ hj2,hij];rfl
       have hwc:wr.cell? ⟨w.heap.size,ij,none⟩=some (.int .i64 xx):=(l.wt.cellAt ij Ω).trans (jE hwx);have hfz:wr.frozen? ⟨w.heap.size,ij,none⟩=false:=l.wt.frozenAt ij;have hj3:j<((chF cs s).map Int.ofNat).length:=by rw[o_];exact hj2
       go_upto_region 25 with(first
        |(refine AJ rfl rfl (b:=w.heap.size) (i:=ij) rfl rfl (by rw[hwc];rfl) hfz ?_;intro w4 hw4)
        |go_in)
       have hgr4:wr.grownBy w4 (some w.heap.size):=by rw[hw4];exact(l.wt.stored ij _).2
       have hdr4:dz wr≤dz w4:=by rw[hw4];exact ζ _
       have henv4:OEnv w w4 cs.length (ws.set ij (xx-1)) (.slice (some ⟨g1,o1,none⟩) f.length c1) v' (qG cs cs.length).length D:=by rw[hw4];exact l.setW ij (xx-1)
       have hrdy4:=T.kept hgr4 λg e e'=>by cases e';have:w.heap.size+2≤w.heap.size:=(T.lo _ e).1;omega
       have hord4:=C.kept hgr4 (.inr λe=>by have:w.heap.size+2≤w.heap.size:=(C.lt _ e).1;omega);have hoi4:=J.kept hgr4 (.inr λe=>by have:w.heap.size+2≤w.heap.size:=(J.1.lt _ e).1;omega);have hwl4:ij<ws.length:=Ω
       have hwc4:w4.cell? ⟨w.heap.size,ij,none⟩=some (.int .i64 (xx-1)):=(henv4.wt.cellAt ij Ω).trans (jE (by rw[List.getElem?_set_self hwl4]));have hst1:(stJ cs os s tl (j+1)).1=ws.set ij (xx-1):=by rw[hst];show ws.set ij (ws.getD ij 0-1)=_;rw[hxx]
       have hst2:(stJ cs os s tl (j+1)).2=if xx-1=0 then VQ (cs.getD ij (0,[])).1 f else f:=by rw[hst];show(if ws.getD ij 0-1=0 then _ else _)=_;rw[hxx]
       clear l T C J hw4 hucell hwc hfz hwx hgr4;by_cases h0:xx-1=0
       ·have h0b:(xx-1 == 0)=true:=beq_iff_eq.2 h0;obtain⟨b,U,rfl,hbl,hcell⟩:=hcs Ω;obtain⟨PA,pc,A2,n2,m2,s3,A4,n4,m4,q0,_⟩:=hcell ij hin;have c0:w4.cell? ⟨b,U+ij*5,none⟩=some (.int .i64 cs[ij].1):=(henv4.bl.cell (p:=⟨b,U+ij*5,none⟩) hbl).trans q0;rw[β h0,υ,δ hin]at hst2;clear hcell q0
        go_wp2_with (first
         |(go_at_call 61;refine(Jh hrdy4 hasc Ω cs[ij].1 ⟨_,_,_,rfl⟩).mono ?_;rintro e w5 ⟨⟨bb,rfl⟩,q5,rfl⟩)
         |(go_at_call 62;refine(Kq (vb:=w4.heap.size) (aeD hrdy4 q5 _) cs[ij].1 (f.countP (· < cs[ij].1)) akk Ω (by simp;have:=henv4.sz;omega) (z_ _ _) (λe=>by have:=(hrdy4.lo _ e).2;omega)).mono ?_;rintro e w6 ⟨v6,rfl,hr6,hg6,hl6,hd6⟩)
         |go_in)
        go_roundw
        case rel=>
         have hdq:dz w4≤dz ((w4.drewN q5).alloc (Obj.cells #[Value.int .i64 cs[ij].1] 3)):=c_ _;have hgq:w4.grownBy ((w4.drewN q5).alloc (Obj.cells #[Value.int .i64 cs[ij].1] 3)) none:=(show w4.grownBy (w4.drewN q5) none from⟨rfl,rfl,rfl,ζ _,λ_ _ _=>rfl⟩).trans (i_ (w4.drewN q5) _ none);have hlo:∀g,v6.ownBlock=some g→g=g1∨w4.heap.size≤g:=λg e=>by
          obtain h|h:=hl6
          ·rw[h]at e;cases e;exact .inl rfl
          ·rw[h]at e;cases e;exact .inr Ψ
         have hvo:∀g,v'.ownBlock=some g→g<w4.heap.size:=λg e=>(hord4.lt g e).2;have henv6:=(henv4.quiet hgq hdq).turn (vr':=v6) (vo':=v') hg6 hd6 (λg e=>⟨(hrdy4.lo g e).1,.inl e⟩) λg e=>by
          obtain e|e:=e
          ·obtain h|h:=hl6
           ·exact .inl (.inl (h.symm.trans e))
           ·rw[h]at e;cases e;exact .inr (ζ _)
          ·exact .inl (.inr e)
         have hg1:v'.ownBlock≠some g1:=hsep g1 rfl;refine⟨j+1,hj2,Ψ,by rw[hst1];exact henv6,by rw[hst2];exact hr6, ?_, ?_, ?_, ?_, ?_⟩
         ·rw[hst2];rcases hr6 with⟨e,h⟩|⟨g,off',cap,cur,e,_⟩
          ·have:=Y' List.length h;simp at this
          ·exact⟨g,off',cap,e⟩
         ·refine(hord4.kept hgq ?_).kept hg6 ?_
          ·cases e:v'.ownBlock with
           |none=>exact .inl rfl
           |some g=>exact .inr Ψ
          ·exact .inr hg1
         ·intro g e e';obtain h|h:=hlo g e
          ·exact hg1 (h ▸ e')
          ·have:=hvo g e';omega
         ·refine(hoi4.kept hgq ?_).kept hg6 ?_
          ·exact .inr (by simp[Value.ownBlock])
          ·exact .inr λe=>(hus gu rfl).1 e.symm
         ·intro g e;refine⟨λe'=>?_,(hus g e).2⟩;obtain h|h:=hlo g e'
          ·exact(hus g e).1 (h ▸ rfl)
          ·have:=(hoi4.1.lt g e).2;omega
        case measure=>simp[intOf];omega
       ·have h0b:(xx-1 == 0)=false:=n?.2 h0;rw[B' h0]at hst2
        go_wp2
        go_roundw
        case rel =>exact⟨j+1,hj2,Ψ,by rw[hst1];exact henv4,by rw[hst2];exact hrdy4,⟨g1,o1,c1,by rw[hst2]⟩,hord4,hsep,hoi4,hus⟩
        case measure=>simp[intOf];omega
      ·obtain rfl:j=(chF cs s).length:=Ω
       have hD:stJ cs os s tl (chF cs s).length=(wsF cs (os++[s]),rdF cs (os++[s])):=by unfold stJ;rw[J_];exact InK.done hg.st hcl hr
       have hT:cY cs (k+1) []=os++[s]:=by rw[lF,hos,hr]
       have hD1:=Y' Prod.fst hD;have hD2:=Y' Prod.snd hD;dsimp only at hD1 hD2;rw[hD2]at l T⊢;rw[hD1]at l;have hlen2:(os++[s]).length=k+1:=by rw[P',hkl];rfl
       rw[hlen2]at C;clear I
       go_wp2
       go_roundw
       case rel=>exact⟨k+1,hkn,by rw[hT];exact hlen2,by rw[hT];exact l,by rw[hT];exact T,by rw[hT];exact C,hsep⟩
       case measure =>obtain⟨VA,vc,rfl⟩:=HF C;rw[hu6];show cs.length-(k+1)<cs.length-k;omega
