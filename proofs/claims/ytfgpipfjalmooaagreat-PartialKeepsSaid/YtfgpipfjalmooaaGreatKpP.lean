/- Parts. -/
import Derived.Shelf.Slices.CompactI
import Derived.Test.YtfgpipfjalmooaaGreatKpJ
import Derived.Deep.AppendSrc
import Derived.WalkSpells
import Derived.Deep.Cut
import Derived.Handy
set_option linter.all false
namespace Go.Proofs
open Go.Shelf Tryz
def Tryz.compI_ren:Go.Shelf.Ren:=⟨λ|20=>37|n=>n,λ|22=>23|3=>3|4=>4|0=>0|n=>n,λ|n=>n⟩
def Tryz.compI:Go.Proofs.Lays2.n20 Tryz.prog Tryz.compI_ren:={
 mixed:=by kernel_rfl
 f20:=Tryz.func37.trans (congrArg some (by kernel_rfl))
 t0:=Tryz.underlying0
 a0:=Tryz.isAgg0
 z0:=Tryz.sizeOf0
 v0:=Tryz.zeroValue0
 t3:=Tryz.underlying3
 a3:=Tryz.isAgg3
 z3:=Tryz.sizeOf3
 v3:=Tryz.zeroValue3
 t4:=Tryz.underlying4
 a4:=Tryz.isAgg4
 z4:=Tryz.sizeOf4
 v4:=Tryz.zeroValue4
 t22:=Tryz.underlying23
 a22:=Tryz.isAgg23
 z22:=Tryz.sizeOf23
 v22:=Tryz.zeroValue23
 i3:=by kernel_rfl }
end Go.Proofs
namespace Go.Proofs.YtfgpipfjalmooaaGreat
namespace Abs
open Go Go.Proofs Go.RowKit Go.Maps Go.Shelf Tryz
def nJ (w:World)(B:Nat)(v:Value)(n:Nat)(f:List Value):Prop :=
 ∃A c,v = .slice A n c∧(A=none→n=0)∧(0<n→∃b o,A=some ⟨b,o,none⟩∧b<B∧∀j u,f[j]? = some u→w.cell? ⟨b,o+j,none⟩=some u)
variable{v:Value}{xs:List Value}
def nJ.keep {w w':World}{B n:Nat}(h:nJ w B v n xs)(C:Below B w w'):nJ w' B v n xs:=by obtain⟨A,c,e,P,J⟩:=h;refine⟨A,c,e,P,λg=>?_⟩;obtain⟨b,o,R,f,r⟩:=J g;exact⟨b,o,R,f,λj u l=>(C.cell (p:=⟨b,o+j,none⟩) f).trans (r j u l)⟩
def nJ.mono {w:World}{B f n:Nat}(h:nJ w B v n xs)(J:B≤f):nJ w f v n xs:=by obtain⟨A,c,e,p,l⟩:=h;refine⟨A,c,e,p,λg=>?_⟩;obtain⟨b,o,r,C,j⟩:=l g;exact⟨b,o,r,Ω,j⟩
def cY {P:Program}(w:World){R:Array Oper}{cJ:List Oper}{o:Oper}{a:Act}{Q:Exit→Act→World→Prop}(hgd:o.guard=none)(s x:Operand)(t:TypeId)
  (ho:o.op = .call { callee :=.builtin .append,args :=#[s,x],argTypes :=#[t,t] }) (g:Nat) (e:TypeId) (i:TypeInfo) (z:Value) (size bytes:Nat) (ht:P.underlying t=some (.slice e)) (hi:P.info? e=some i) (hz:i.zero=some z)
  (p:i.size=size) (hby:i.bytes=bytes) (U:z.cells.size=size) (hsz:0<size) (v:Value) (n:Nat) (xs:List Value) (hs:a.eval s=v) (T:w.ownsRow g e size v n xs)
  (A:Option Addr) (m c:Nat) (f:List Value) (hx:a.eval x = .slice A m c) (hl:f.length=m*size) (hA:m=0∨∃ad,A=some ad∧∀j u,f[j]? = some u→w.cell? (ad.add j)=some u) (h1:∀u∈f,u.oneCell'=true)
  (h63:n+m≤maxLen) (l:(n+m)*bytes≤140737488355328) (r:g≤w.heap.size)
  (h:∀C J,J.ownsRow g e size C (n+m) (xs++f)→w.grownBy J v.ownBlock→(C.ownBlock=v.ownBlock∨C.ownBlock=some w.heap.size)→wpList P R Q cJ (a.put o.dst C) J):wpList P R Q (o::cJ) a w :=
 wpList_plain hgd λ_ hK=>by obtain⟨C,J,hr,h2,h3,h4,_,_⟩:=dQ (P:=P) (B:={ b:=g }) w t o.type e i z size bytes ht hi hz p hby U hsz v n xs T A m c f hl hA h1 h63 l r;unfold Oper.wp execOp;simp[ho,resolve,invoke,builtin,υ,j_,hs,hx,hr];exact hK _ _ (h C J h2 h3 h4)
def gH (x:WK):List Value:=[.int .i64 x.id,.int .i64 x.fd,.int .i64 x.nn,.bool x.fl,.string x.tx,.int .i64 x.rf]
def flW (l:List WK):List Value:=(l.map gH).flatten
def afJ (l:List WK)(x:WK):flW (l++[x])=flW l++gH x:=by simp[flW]
def VO (l:List WK):(flW l).length=l.length*6:=by
 induction l with
 |nil=>rfl
 |cons x l f=>simp[flW,gH]at f⊢;omega
def VN (l:List WK):∀u∈flW l,u.oneCell'=true:=by intro u f;obtain⟨c,g,f⟩:=akI.1 f;obtain⟨x,_,rfl⟩:=l_.1 g;simp[gH]at f;obtain rfl|rfl|rfl|rfl|rfl|rfl:=f <;> rfl
def YD (l:List Int):∀u∈intsI l,u.oneCell'=true:=by simp[intsI,Value.oneCell']
def JL (l:List Int):(intsI l).length=l.length*1:=by simp[intsI]
def ag1:(prog.info? 44).map (λi=>(i.zero,i.size,i.bytes))=some (some (.agg #[.int .i64 0,.int .i64 0,.int .i64 0,.bool false,.string ByteArray.empty,.int .i64 0]),6,56):=Φ
def tV:prog.underlying 23=some (.slice 3):=Φ
def ml:prog.underlying 36=some (.slice 44):=Φ
set_option maxHeartbeats 1000000 in
def sR (l:List Int)(h:l.length≤1048576)(w:World)(v:Value)(hv:nJ w w.heap.size v l.length (intsI l)):Calls prog 35 #[v] w λe r=>∃T,e = .returned T∧r.ownsRow w.heap.size 3 1 T l.length (intsI l)∧w.grownBy r none:=by
 obtain⟨A,c,rfl,h0,h1⟩:=hv;obtain⟨i0,hi0,hz0,hz1,hz2⟩:=info_parts abL;have qn:∀(w:World) (a:Option Addr) (n c U c':Nat),(binOp .eql 23 (.slice a n c) (.slice none U c')).run prog w = .ok (.bool a.isNone) w:=λw a n c U c'=>Lib.run_eql_slice_nil w _ _ a n c U c' (tV);cases A with
 |none=>
  have hl:=h0 rfl;have J:∀r:World,r.ownsRow w.heap.size 3 1 (.slice none 0 0) l.length (intsI l):=λr=>⟨JL l,.inl ⟨rfl,hl⟩⟩
  go_enter func35,ntmps35
  go_wp2
  go_ret
  refine⟨_,rfl, ?_,rfl,rfl,rfl,ζ _,λ_ _ _=>rfl⟩;have:=J w;simpa[hl]using this
 |some ad=>
  have hc:l.length=0∨∃R,(some ad:Option Addr)=some R∧∀j u,(intsI l)[j]? = some u→(w.alloc (.cells #[] 3)).cell? (R.add j)=some u:=by
   obtain h|h:=Nat.eq_zero_or_pos l.length
   ·exact .inl h
   ·obtain⟨b,o,e,hlt,g⟩:=h1 h;cases e;refine .inr ⟨_,rfl,λj u hj=>?_⟩;rw[Addr.add_mid];exact((Below.refl _ w).alloc (ζ _) _ |>.cell (p:=⟨b,o+j,none⟩) hlt).trans (g j u hj)
  have f:(w.alloc (.cells #[] 3)).ownsRow w.heap.size 3 1 (.slice (some ⟨w.heap.size,0,none⟩) 0 0) 0 []:=World.ownsRow_made _ #[] 0 (ζ _) (k_ _) rfl
  go_enter func35,ntmps35
  go_wp2_with (first
   |(at_builtin;refine cY _ rfl (.tmp 5) (.tmp 6) 23 rfl w.heap.size 3 i0 (.int .i64 0) 1 8 (tV) hi0 hz0 hz1 hz2 rfl Ϛ (.slice (some ⟨w.heap.size,0,none⟩) 0 0) 0 [] rfl f (some ad) l.length _ (intsI l) rfl (JL l) hc (YD l) (by unfold maxLen;omega) Ω Ψ ?_;intro T r h2 P _)
   |go_in)
  go_ret
  refine⟨T,rfl,by simpa using h2, ?_⟩;have C:=ω w (.cells #[] 3) none;exact⟨P.os.trans C.os,P.tape.trans C.tape,P.output.trans C.output,ν C.size P.size,λk hk _=>(P.block k (g_ hk C.size) (λe=>by have e:some k=some w.heap.size:=e;injection e with e;omega)).trans (C.block k hk Ψ)⟩
set_option maxHeartbeats 1000000 in
def MR (l:List WK)(h:l.length≤1048576)(w:World)(v:Value)(hv:nJ w w.heap.size v l.length (flW l)):Calls prog 68 #[v] w λe r=>∃T,e = .returned T∧r.ownsRow w.heap.size 44 6 T l.length (flW l)∧w.grownBy r none:=by
 obtain⟨A,c,rfl,h0,h1⟩:=hv;obtain⟨i0,hi0,hz0,hz1,hz2⟩:=info_parts ag1;have qn:∀(w:World) (a:Option Addr) (n c U c':Nat),(binOp .eql 36 (.slice a n c) (.slice none U c')).run prog w = .ok (.bool a.isNone) w:=λw a n c U c'=>Lib.run_eql_slice_nil w _ _ a n c U c' (ml);cases A with
 |none=>
  have hl:=h0 rfl;have J:∀r:World,r.ownsRow w.heap.size 44 6 (.slice none 0 0) l.length (flW l):=λr=>⟨VO l,.inl ⟨rfl,hl⟩⟩
  go_enter func68,ntmps68
  go_wp2
  go_ret
  refine⟨_,rfl, ?_,rfl,rfl,rfl,ζ _,λ_ _ _=>rfl⟩;have:=J w;simpa[hl]using this
 |some ad=>
  have hc:l.length=0∨∃R,(some ad:Option Addr)=some R∧∀j u,(flW l)[j]? = some u→(w.alloc (.cells #[] 44)).cell? (R.add j)=some u:=by
   obtain h|h:=Nat.eq_zero_or_pos l.length
   ·exact .inl h
   ·obtain⟨b,o,e,hlt,g⟩:=h1 h;cases e;refine .inr ⟨_,rfl,λj u hj=>?_⟩;rw[Addr.add_mid];exact((Below.refl _ w).alloc (ζ _) _ |>.cell (p:=⟨b,o+j,none⟩) hlt).trans (g j u hj)
  have f:(w.alloc (.cells #[] 44)).ownsRow w.heap.size 44 6 (.slice (some ⟨w.heap.size,0,none⟩) 0 0) 0 []:=World.ownsRow_made _ #[] 0 (ζ _) (k_ _) rfl
  go_enter func68,ntmps68
  go_wp2_with (first
   |(at_builtin;refine cY _ rfl (.tmp 5) (.tmp 6) 36 rfl w.heap.size 44 i0 (.agg #[.int .i64 0,.int .i64 0,.int .i64 0,.bool false,.string ByteArray.empty,.int .i64 0]) 6 56 (ml) hi0 hz0 hz1 hz2 rfl Ϛ (.slice (some ⟨w.heap.size,0,none⟩) 0 0) 0 [] rfl f (some ad) l.length _ (flW l) rfl (VO l) hc (VN l) (by unfold maxLen;omega) Ω Ψ ?_;intro T r h2 P _)
   |go_in)
  go_ret
  refine⟨T,rfl,by simpa using h2, ?_⟩;have C:=ω w (.cells #[] 44) none;exact⟨P.os.trans C.os,P.tape.trans C.tape,P.output.trans C.output,ν C.size P.size,λk hk _=>(P.block k (g_ hk C.size) (λe=>by have e:some k=some w.heap.size:=e;injection e with e;omega)).trans (C.block k hk Ψ)⟩
end Abs
namespace Abs
open Go Go.Proofs Go.RowKit Go.Maps Go.Shelf Tryz
variable{w w' :World}{b base size r:Nat}{cs:Array Value}{t:TypeId}{v:Value}{xs:List Value}
def eE (h:w.heap[b]? = some (.cells cs t (0,0)))(i:Nat)(v:Value) :
  (w.setCell ⟨b,i,none⟩ v).heap[b]? = some (.cells (cs.setIfInBounds i v) t (0,0))∧w.grownBy (w.setCell ⟨b,i,none⟩ v) (some b):=by
 have f:=(δ.1 h).1;refine⟨?_,rfl,rfl,rfl,by simp[World.setCell],λk _ g=>?_⟩
 ·unfold World.setCell;rw[W_,h];simp
 ·unfold World.setCell;rw[W_,Θ (λe=>g (by have e:b=k:=e;rw[e]))]
def aj (h:w.heap[b]? = some (.cells cs t (0,0)))(i:Nat)(f:cs[i]? = some v):w.cell? ⟨b,i,none⟩=some v∧w.frozen? ⟨b,i,none⟩=false:=by
 refine⟨?_, ?_⟩
 ·unfold World.cell?;rw[h];exact f
 ·unfold World.frozen?;rw[h];simp
def aJ {e n:Nat}{o:Obj}(h:w.ownsRow base e size v n xs)(l:w.grownBy w' (some r))(j:w.heap[r]? = some o)(f:∀g,o ≠ .cells g e (0,0)):w'.ownsRow base e size v n xs:=by
 refine h.kept l ?_;obtain e|e:=ownsRow_ne_a h j f
 ·exact .inl e
 ·exact .inr e
def bZ {e n:Nat}(h:w.ownsRow base e size v n xs):∃A c,v = .slice A n c:=by
 rcases h.2 with⟨rfl,rfl⟩|⟨g,cap,f,rfl,_⟩
 ·exact⟨_,_,rfl⟩
 ·exact⟨_,_,rfl⟩
def dg {e n:Nat}(h:w.ownsRow base e size v n xs)(f:w.grownBy w' none):w'.ownsRow base e size v n xs :=
 h.kept f (by cases e:v.ownBlock with
  |none=>exact .inl rfl
  |some g=>exact .inr Ψ)
def fJ {f e n:Nat}(h:w.ownsRow f e size v n xs)(r:base≤f):w.ownsRow base e size v n xs:=by
 refine⟨h.1, ?_⟩;obtain h|⟨g,cap,j,p,C,l⟩:=h.2
 ·exact .inl h
 ·exact .inr ⟨g,cap,j,p,Ω,l⟩
def wL {W j :World}(h:w.grownBy W none)(f:W.grownBy j (some r))(l:w.heap.size≤r):w.grownBy j none :=
 ⟨f.os.trans h.os,f.tape.trans h.tape,f.output.trans h.output,ν h.size f.size,λk g _=>(f.block k (g_ g h.size) (λe=>by injection e with e;omega)).trans (h.block k g Ψ)⟩
def mZ {f:World}(h:w.grownBy w' (some r))(g:w'.grownBy f (some r)):w.grownBy f (some r) :=
 ⟨g.os.trans h.os,g.tape.trans h.tape,g.output.trans h.output,ν h.size g.size,λk j e=>(g.block k (g_ j h.size) e).trans (h.block k j e)⟩
def aap {a0 a1 a2 U T v0 v1 v2 v3 v4:Value}(h:w.heap[b]? = some (.cells #[a0,a1,a2,U,T] t (0,0))) :
  (((((w.setCell ⟨b,0,none⟩ v0).setCell ⟨b,1,none⟩ v1).setCell ⟨b,2,none⟩ v2).setCell ⟨b,3,none⟩ v3).setCell ⟨b,4,none⟩ v4).heap[b]? = some (.cells #[v0,v1,v2,v3,v4] t (0,0)) ∧
  w.grownBy (((((w.setCell ⟨b,0,none⟩ v0).setCell ⟨b,1,none⟩ v1).setCell ⟨b,2,none⟩ v2).setCell ⟨b,3,none⟩ v3).setCell ⟨b,4,none⟩ v4) (some b):=by
 obtain⟨p,R⟩:=eE h 0 v0;obtain⟨l,P⟩:=eE p 1 v1;obtain⟨j,J⟩:=eE l 2 v2;obtain⟨g,C⟩:=eE j 3 v3;obtain⟨f,r⟩:=eE g 4 v4;exact⟨by simpa using f,mZ (mZ (mZ (mZ R P) J) C) r⟩
set_option maxRecDepth 100000 in
set_option maxHeartbeats 1600000 in
def MH (st:Int)(pv qv wv:Value)(g:ByteArray)(ps p:List Int)(l:List WK)(w:World)(h1:ps.length≤1048576)(h2:p.length≤1048576)(h3:l.length≤1048576)(hp:nJ w w.heap.size pv ps.length (intsI ps))(hq:nJ w w.heap.size qv p.length (intsI p))(hw:nJ w w.heap.size wv l.length (flW l)) :
  Calls prog 38 #[.agg #[.int .i64 st,pv,qv,.string g,wv]] w λe w'=>∃pv' qv' wv',e = .returned (.agg #[.int .i64 st,pv',qv',.string g,wv'])∧w.grownBy w' none ∧
   w'.ownsRow w.heap.size 3 1 pv' ps.length (intsI ps)∧w'.ownsRow w.heap.size 3 1 qv' p.length (intsI p)∧w'.ownsRow w.heap.size 44 6 wv' l.length (flW l):=by
 obtain⟨pA,pc,rfl,hpx⟩:=hp;have hp:nJ w w.heap.size (.slice pA ps.length pc) ps.length (intsI ps):=⟨pA,pc,rfl,hpx⟩;obtain⟨qA,qc,rfl,hqx⟩:=hq;have hq:nJ w w.heap.size (.slice qA p.length qc) p.length (intsI p):=⟨qA,qc,rfl,hqx⟩;obtain⟨wA,wc,rfl,hwx⟩:=hw;have hw:nJ w w.heap.size (.slice wA l.length wc) l.length (flW l):=⟨wA,wc,rfl,hwx⟩;clear hpx hqx hwx
 go_enter func38,ntmps38
 go_upto_region 1 with fail
 have hA1:=(Below.heap_alloc (w.alloc (.cells #[.int .i64 st,.slice pA ps.length pc,.slice qA p.length qc,.string g,.slice wA l.length wc] 38)) (.cells #[.int .i64 0,.slice none 0 0,.slice none 0 0,.string { data :=#[] },.slice none 0 0] 38) w.heap.size Ψ).trans (World.alloc_heap_new w (.cells #[.int .i64 st,.slice pA ps.length pc,.slice qA p.length qc,.string g,.slice wA l.length wc] 38));have hA2:=World.alloc_heap_new (w.alloc (.cells #[.int .i64 st,.slice pA ps.length pc,.slice qA p.length qc,.string g,.slice wA l.length wc] 38)) (.cells #[.int .i64 0,.slice none 0 0,.slice none 0 0,.string { data :=#[] },.slice none 0 0] 38);rw[U']at hA2;have hgA:w.grownBy ((w.alloc (.cells #[.int .i64 st,.slice pA ps.length pc,.slice qA p.length qc,.string g,.slice wA l.length wc] 38)).alloc (.cells #[.int .i64 0,.slice none 0 0,.slice none 0 0,.string { data :=#[] },.slice none 0 0] 38)) none:=(ω w (.cells #[.int .i64 st,.slice pA ps.length pc,.slice qA p.length qc,.string g,.slice wA l.length wc] 38) none).trans (ω (w.alloc (.cells #[.int .i64 st,.slice pA ps.length pc,.slice qA p.length qc,.string g,.slice wA l.length wc] 38)) (.cells #[.int .i64 0,.slice none 0 0,.slice none 0 0,.string { data :=#[] },.slice none 0 0] 38) none);have hsA:((w.alloc (.cells #[.int .i64 st,.slice pA ps.length pc,.slice qA p.length qc,.string g,.slice wA l.length wc] 38)).alloc (.cells #[.int .i64 0,.slice none 0 0,.slice none 0 0,.string { data :=#[] },.slice none 0 0] 38)).heap.size=w.heap.size+2:=by simp
 generalize (w.alloc (.cells #[.int .i64 st,.slice pA ps.length pc,.slice qA p.length qc,.string g,.slice wA l.length wc] 38)).alloc (.cells #[.int .i64 0,.slice none 0 0,.slice none 0 0,.string { data :=#[] },.slice none 0 0] 38)=Wa at hA1 hA2 hgA hsA⊢;have j:∀W,w.grownBy W none→Below w.heap.size w W:=λW hg=>(Below.refl _ w).grown hg (ζ _) λk e=>by cases e
 have hca:=(aj hA1 1 rfl).1
 go_upto_region 2 with(first
  |(go_at_call 35;refine(sR ps h1 Wa _ ((hp.keep (j Wa hgA)).mono Ω)).mono ?_;rintro e w1 ⟨v1,rfl,hr1,hg1⟩
    obtain⟨B1,c1,rfl⟩:=bZ hr1;have hB1:=(hg1.block _ Ω Ψ).trans hA1;have hcb:=(aj hB1 1 rfl).1;have hfb:=(aj hB1 1 rfl).2)
  |go_in)
 have hS1:=eE hB1 1 (.slice B1 ps.length c1);simp at hS1;have hA2b:=(hS1.2.block _ (by have:=hg1.size;omega) Ψ).trans ((hg1.block _ Ω Ψ).trans hA2);have hr1b:=aJ hr1 hS1.2 hB1 (λR e=>by cases e);have hsz1:=ν hg1.size hS1.2.size;have C:w.grownBy (w1.setCell ⟨w.heap.size,1,none⟩ (.slice B1 ps.length c1)) none:=wL (hgA.trans hg1) hS1.2 (ζ _);obtain⟨hC1,_⟩:=hS1;generalize w1.setCell ⟨w.heap.size,1,none⟩ (.slice B1 ps.length c1)=Wb at hC1 hA2b hr1b C hsz1⊢;clear hA1 hA2 hgA hca hcb hfb hB1 hr1 hg1;have hca:=(aj hC1 2 rfl).1
 go_upto_region 3 with(first
  |(go_at_call 35;refine(sR p h2 Wb _ ((hq.keep (j Wb C)).mono C.size)).mono ?_;rintro e w2 ⟨v2,rfl,hr2,T⟩
    obtain⟨B2,c2,rfl⟩:=bZ hr2;have hB2:=(T.block _ Ω Ψ).trans hC1;have hcb:=(aj hB2 2 rfl).1;have hfb:=(aj hB2 2 rfl).2)
  |go_in)
 have U:=eE hB2 2 (.slice B2 p.length c2);simp at U;have hA2c:=(U.2.block _ (by have:=T.size;omega) Ψ).trans ((T.block _ Ω Ψ).trans hA2b);have hr1c:=aJ (dg hr1b T) U.2 hB2 (λR e=>by cases e);have hr2b:=aJ hr2 U.2 hB2 (λR e=>by cases e);have hsz2:=ν T.size U.2.size;have r:w.grownBy (w2.setCell ⟨w.heap.size,2,none⟩ (.slice B2 p.length c2)) none:=wL (C.trans T) U.2 (ζ _);obtain⟨hC2,_⟩:=U;generalize w2.setCell ⟨w.heap.size,2,none⟩ (.slice B2 p.length c2)=Wc at hC2 hA2c hr1c hr2b r hsz2⊢;clear hC1 hA2b hr1b hca hcb hfb hB2 hr2 T;have hca:=(aj hC2 4 rfl).1
 go_upto_region 4 with(first
  |(go_at_call 68;refine(MR l h3 Wc _ ((hw.keep (j Wc r)).mono r.size)).mono ?_;rintro e w3 ⟨v3,rfl,hr3,J⟩
    obtain⟨B3,c3,rfl⟩:=bZ hr3;have hB3:=(J.block _ Ω Ψ).trans hC2;have hcb:=(aj hB3 4 rfl).1;have hfb:=(aj hB3 4 rfl).2)
  |go_in)
 have P:=eE hB3 4 (.slice B3 l.length c3);simp at P;have f:=(P.2.block _ (by have:=J.size;omega) Ψ).trans ((J.block _ Ω Ψ).trans hA2c);have hr1d:=aJ (dg hr1c J) P.2 hB3 (λR e=>by cases e);have hr2d:=aJ (dg hr2b J) P.2 hB3 (λR e=>by cases e);have hr3d:=aJ hr3 P.2 hB3 (λR e=>by cases e);have hgw3:w.grownBy (w3.setCell ⟨w.heap.size,4,none⟩ (.slice B3 l.length c3)) none:=wL (r.trans J) P.2 (ζ _);have hsz3:=ν J.size P.2.size;obtain⟨hC3,_⟩:=P;generalize w3.setCell ⟨w.heap.size,4,none⟩ (.slice B3 l.length c3)=Wd at hC3 f hr1d hr2d hr3d hgw3 hsz3⊢;clear hC2 hA2c hr1c hr2b hca hcb hfb hB3 hr3 J;have k0:=(aj hC3 0 rfl).1;have k1:=(aj hC3 1 rfl).1;have k2:=(aj hC3 2 rfl).1;have k3:=(aj hC3 3 rfl).1;have k4:=(aj hC3 4 rfl).1;have f0:=(aj f 0 rfl).2;have f1:=(aj f 1 rfl).2;have f2:=(aj f 2 rfl).2;have f3:=(aj f 3 rfl).2;have f4:=(aj f 4 rfl).2;have o0:=(aj f 0 rfl).1;have o1:=(aj f 1 rfl).1;have o2:=(aj f 2 rfl).1;have o3:=(aj f 3 rfl).1;have o4:=(aj f 4 rfl).1
 go_wp2
 obtain⟨hE,hgE⟩:=aap (v0 :=.int .i64 st) (v1 :=.slice B1 ps.length c1) (v2 :=.slice B2 p.length c2) (v3 :=.string g) (v4 :=.slice B3 l.length c3) f;have e1:=aJ hr1d hgE f (λR e=>by cases e);have e2:=aJ hr2d hgE f (λR e=>by cases e);have e3:=aJ hr3d hgE f (λR e=>by cases e);refine bodyPost_ret (results_cell_row rfl _ _ (w.heap.size+1) _ _ _ _ rfl hE underlying38 rfl Φ) rfl ?_;exact⟨_,_,_,rfl,wL hgw3 hgE Ω,fJ e1 Ω,fJ e2 (by have:=C.size;omega),fJ e3 (by have:=r.size;omega)⟩
end Abs
namespace Abs
open Go Go.Proofs Go.RowKit Go.Maps Go.Shelf Tryz
structure CF where
 st:Int
 ps:List Int
 qs:List Int
 nt:ByteArray
 wl:List WK
def Na (w:World)(B b f:Nat)(c:CF):Prop :=
 ∃pv j g,w.cell? ⟨b,f,none⟩=some (.int .i64 c.st)∧w.cell? ⟨b,f+1,none⟩=some pv∧w.cell? ⟨b,f+2,none⟩=some j∧w.cell? ⟨b,f+3,none⟩=some (.string c.nt)∧w.cell? ⟨b,f+4,none⟩=some g ∧
  nJ w B pv c.ps.length (intsI c.ps)∧nJ w B j c.qs.length (intsI c.qs)∧nJ w B g c.wl.length (flW c.wl)
def xX (w:World)(B:Nat)(A:Option Addr)(g:List CF):Prop:=0<g.length→∃b f,A=some ⟨b,f,none⟩∧b<B∧∀k (h:k<g.length),Na w B b (f+k*5) g[k]
def Na.keep {w w':World}{B b o:Nat}{c:CF}(h:Na w B b o c)(f:Below B w w')(T:b<B):Na w' B b o c:=by obtain⟨pv,j,g,C,q1,q2,r,l,R,P,J⟩:=h;have t:∀o v,w.cell? ⟨b,o,none⟩=some v→w'.cell? ⟨b,o,none⟩=some v:=λo v h=>(f.cell (p:=⟨b,o,none⟩) T).trans h;exact⟨pv,j,g,t _ _ C,t _ _ q1,t _ _ q2,t _ _ r,t _ _ l,R.keep f,P.keep f,J.keep f⟩
def Na.mono {w:World}{B g b o:Nat}{c:CF}(h:Na w B b o c)(f:B≤g):Na w g b o c:=by obtain⟨pv,l,j,C,q1,q2,r,p,R,P,J⟩:=h;exact⟨pv,l,j,C,q1,q2,r,p,R.mono f,P.mono f,J.mono f⟩
def xX.keep {w w':World}{B:Nat}{A:Option Addr}{j:List CF}(h:xX w B A j)(r:Below B w w'):xX w' B A j:=λC=>by obtain⟨b,f,e,g,p⟩:=h C;exact⟨b,f,e,g,λk l=>(p k l).keep r g⟩
def xX.mono {w:World}{B j:Nat}{A:Option Addr}{g:List CF}(h:xX w B A g)(r:B≤j):xX w j A g:=λC=>by obtain⟨b,f,e,J,p⟩:=h C;exact⟨b,f,e,Ω,λk l=>(p k l).mono r⟩
def ab6:∀(l:List WK) (j:Nat) (h:j<l.length) (i:Nat),i<6→(flW l)[j*6+i]? = (gH l[j])[i]?
 |x::l,0,_,i,hi=>by simp[flW];exact E' hi
 |x::l,j+1,h,i,hi=>by have:=ab6 l j (by simpa using h) i hi;simp[flW]at this⊢;rw[←this,c_ (by simp[gH];omega)];congr 1;simp[gH];omega
variable{w:World}{A:Option Addr}
def Np {B n c:Nat}{l:List WK}(h:nJ w B (.slice A n c) l.length (flW l))(j:Nat)(J:j<l.length):∃p r,A=some ⟨p,r,none⟩∧p<B∧Zu w p (r+j*6) l[j]:=by
 obtain⟨U,T,e,_,R⟩:=h;cases e;obtain⟨p,r,e,C,f⟩:=R Ω;have g:=λi (P:i<6)=>ab6 l j J i P;refine⟨p,r,e,C, ?_, ?_, ?_, ?_, ?_, ?_⟩
 ·exact f (j*6) _ (by rw[←Nat.add_zero (j*6),g 0 Ϛ];rfl)
 ·rw[G_];exact f (j*6+1) _ (by rw[g 1 Ϛ];rfl)
 ·rw[G_];exact f (j*6+2) _ (by rw[g 2 Ϛ];rfl)
 ·rw[G_];exact f (j*6+3) _ (by rw[g 3 Ϛ];rfl)
 ·rw[G_];exact f (j*6+4) _ (by rw[g 4 Ϛ];rfl)
 ·rw[G_];exact f (j*6+5) _ (by rw[g 5 Ϛ];rfl)
def Na.comm {B b o:Nat}{c:CF}(h:Na w B b o c):DB w B b o c.wl:=by obtain⟨pv,qv,wv,r,q1,q2,p,l,⟨A1,c1,rfl,_⟩,⟨A2,c2,rfl,_⟩,hs⟩:=h;obtain⟨A3,c3,rfl,_,T⟩:=id hs;refine⟨_,A1,_,c1,A2,_,c2,_,A3,c3,r,q1,q2,p,l,λh0=>?_⟩;obtain⟨R,J,e,f,_⟩:=T h0;refine⟨R,J,e,f,λj U=>?_⟩;obtain⟨P,C,g,_,h⟩:=Np hs j U;rw[e]at g;cases g;exact h
def xX.comms {B:Nat}{l:List CF}(h:xX w B A l):dP w B A (l.map (·.wl)):=λj=>by rw[e_]at j;obtain⟨b,f,e,p,r⟩:=h j;refine⟨b,f,e,p,λk g=>?_⟩;rw[e_]at g;rw[alE];exact(r k g).comm
end Abs
namespace Abs
open Go Go.Proofs Go.RowKit Go.Maps Go.Shelf Tryz
def zA (l:List Int):List Int:=Lib.compact (l.mergeSort λx y=>decide (x≤y))
variable{wr:World}{base:Nat}{v:Value}{f:List Int}
def Xl (h:wr.ownsRow base 3 1 v f.length (intsI f))(hl:f.length≤1048576) :
  Calls prog 36 #[v] wr λe j=>e = .returned (.tuple #[])∧j.ownsRow base 3 1 v f.length (intsI (f.mergeSort λx y=>decide (x≤y)))∧wr.grownBy j v.ownBlock:=by
 rcases h.2 with⟨rfl,T⟩|⟨g,cap,U,rfl,P,l,C,J,r,p⟩
 ·refine(Xm none 0 wr).mono ?_;rintro e j ⟨rfl,rfl⟩;obtain rfl:f=[]:=Q' T;exact⟨rfl,by simpa using h,⟨rfl,rfl,rfl,ζ _,λ_ _ _=>rfl⟩⟩
 ·have R:Sort.Holds (Value.int .i64) wr g 0 f.toArray:=holds_of_blockI l (by simpa[intsI]using p);refine(RW g cap f wr R (δ.1 l).1 Ω).mono ?_;rintro e j ⟨rfl,n,os,rfl⟩;exact⟨rfl,ownsRow_sortedI (akG f) P l C J r,grownBy_sortedI _⟩
def Uj (f:List Int):(Lib.compact f).length≤f.length:=by unfold Lib.compact Lib.compactUpTo;rw[e_];exact ν (F_ _ _) Ψ
def MJ (h:wr.ownsRow base 3 1 v f.length (intsI f))(hl:f.length≤1048576) :
  Calls prog 37 #[v] wr λe p=>∃J,e = .returned J∧p.ownsRow base 3 1 J (Lib.compact f).length (intsI (Lib.compact f))∧wr.grownBy p v.ownBlock∧J.ownBlock=v.ownBlock∧∃r,p.ownsRow base 3 1 v r.length (intsI r):=by
 rcases h.2 with⟨rfl,h0⟩|⟨g,cap,cur,rfl,hb,hc,U,hm,hs,ht⟩
 ·obtain rfl:f=[]:=Q' h0;refine(Any.slices_Compact_int_empty compI none 0 wr).mono ?_;rintro e p ⟨rfl,rfl⟩;exact⟨_,rfl,h,⟨rfl,rfl,rfl,ζ _,λ_ _ _=>rfl⟩,rfl,[],h⟩
 ·have hH:Sort.Holds (Value.int .i64) wr g 0 f.toArray:=holds_of_blockI hc (by simpa[intsI]using ht);refine(Any.slices_Compact_int compI g 0 cap f wr hH Ω U).mono ?_;rintro e p ⟨rfl,q,rfl⟩;have hle:=Uj f;have j:=ownsRow_sortedI (os :=#[]) (n:=q) (ts:=Lib.compact f++List.replicate (f.length-(Lib.compact f).length) 0) (ss:=f) Ξ hb hc U hm hs;have C:(Lib.compact f++List.replicate (f.length-(Lib.compact f).length) 0).length=f.length:=by simp;omega
  refine⟨_,rfl, ?_,grownBy_sortedI (os :=#[]) (n:=q) _,rfl,_,(by rw[C];exact j)⟩;rcases j.2 with⟨e,_⟩|⟨g',cap',l,e,hb',T,hn',hm',R,P⟩
  ·cases e
  ·cases e;refine⟨by simp[intsI],.inr ⟨g,cap,l,rfl,hb,T,Ω,hm,R, ?_⟩⟩;have:(l.toList.take (f.length*1)).take (Lib.compact f).length=intsI (Lib.compact f):=by
    rw[P,H?,alK Ψ];rfl
   rwa[akV,W? Ω,←Nat.mul_one (Lib.compact f).length]at this
end Abs
namespace Abs
open Go Go.Proofs Go.RowKit Go.Maps Go.Shelf Tryz
structure PF where
 c:CF
 left:Nat
def fg (W:World)(B T:Nat)(x:PF)(l:List Value):Prop :=
 ∃pv j f,l=[.int .i64 x.c.st,pv,j,.string x.c.nt,f,.int .i64 x.left]∧W.ownsRow B 3 1 pv x.c.ps.length (intsI x.c.ps)∧W.ownsRow B 3 1 j x.c.qs.length (intsI x.c.qs)∧W.ownsRow B 44 6 f x.c.wl.length (flW x.c.wl) ∧
  ∀g,(pv.ownBlock=some g∨j.ownBlock=some g∨f.ownBlock=some g)→g<T
variable{W j w:World}{T p n:Nat}{x:PF}{vs vs' :List (List Value)}{K N M:Int→Bool}{f pv:Value}{wl C :List Int}{l l' :List PF}
def fg.old {B:Nat}{vs:List Value}{row:Option Nat}(h:fg W B T x vs)(p:W.grownBy j row)(P:∀r,row=some r→T≤r):fg j B T x vs:=by
 obtain⟨pv,C,f,rfl,h1,U,R,l⟩:=h;have k:∀v:Value,(∀g,v.ownBlock=some g→g<T)→v.ownBlock=none∨v.ownBlock≠row:=λv J=>by
  cases e:v.ownBlock with
  |none=>exact .inl rfl
  |some g=>
   have:=J g e;exact .inr λe'=>by have:=P g e'.symm;omega
 exact⟨pv,C,f,rfl,h1.kept p (k pv λg e=>l g (.inl e)),U.kept p (k C λg e=>l g (.inr (.inl e))),R.kept p (k f λg e=>l g (.inr (.inr e))),l⟩
def fg.stays {B:Nat}{vs:List Value}{r:Nat}{o:Obj}(h:fg W B T x vs)(p:W.grownBy j (some r))(l:W.heap[r]? = some o)(J:∀g,o ≠ .cells g 3 (0,0))(C:∀g,o ≠ .cells g 44 (0,0)):fg j B T x vs:=by obtain⟨pv,P,f,rfl,k1,k2,U,R⟩:=h;exact⟨pv,P,f,rfl,aJ k1 p l J,aJ k2 p l J,aJ U p l C,R⟩
def fg.mono {B T' :Nat}{vs:List Value}(h:fg W B T x vs)(p:T≤T'):fg W B T' x vs:=by obtain⟨pv,j,f,rfl,P,J,C,r⟩:=h;exact⟨pv,j,f,rfl,P,J,C,λg l=>g_ (r g l) p⟩
def bO (W:World)(B T:Nat):List PF→List (List Value)→Prop
 |[],[]=>True
 |x::l,v::vs=>fg W B T x v∧bO W B T l vs
 |_,_=>False
def bO.all {W j:World}{B p T g:Nat}(h:∀x v,fg W B T x v→fg j p g x v):∀{l:List PF} {vs:List (List Value)},bO W B T l vs→bO j p g l vs
 |[],[],_=>trivial
 |_::_,_::_,f=>⟨h _ _ f.1,bO.all h f.2⟩
 |[],_::_,f=>f.elim
 |_::_,[],f=>f.elim
def bO.push {W:World}{B T:Nat}{x:PF}{v:List Value}(g:fg W B T x v):∀{l:List PF} {vs:List (List Value)},bO W B T l vs→bO W B T (l++[x]) (vs++[v])
 |[],[],_=>⟨g,apj⟩
 |_::_,_::_,f=>⟨f.1,bO.push g f.2⟩
 |[],_::_,f=>f.elim
 |_::_,[],f=>f.elim
def bO.len {W:World}{B T:Nat}:∀{l:List PF} {vs:List (List Value)},bO W B T l vs→vs.length=l.length
 |[],[],_=>rfl
 |_::_,_::_,hl=>i_ (· + 1) (bO.len hl.2)
 |[],_::_,hl=>hl.elim
 |_::_,[],hl=>hl.elim
structure MkS (w W:World)(S p T n:Nat)(K N M:Int→Bool)(f pv:Value)(wl:List Int)(l:List PF)(vs:List (List Value)):Prop where
 below:Below w.heap.size w W
 res:W.heap[w.heap.size]? = some (.cells #[.slice none 0 0,.slice none 0 0] 31 (0,0))
 env:KEnv W (w.heap.size+1) (w.heap.size+1+1) S (S+1) (S+1+1) (S+1+1+1) n K N M
 lo:w.heap.size+3≤S
 hi:S+4≤p
 top:p<T∧T≤W.heap.size
 box:W.heap[p]? = some (.cells #[f,pv] 31 (0,0))
 want:W.ownsRow (S+4) 3 1 f wl.length (intsI wl)
 parts:W.ownsRow (S+4) 54 6 pv l.length vs.flatten
 wlt:∀g,f.ownBlock=some g→g<T
 plt:∀g,pv.ownBlock=some g→g<T
 held:bO W (S+4) T l vs
def MkS.old {w W j:World}{S p T n:Nat}{K N M:Int→Bool}{f pv:Value}{wl:List Int}{l:List PF}{vs:List (List Value)}{row:Option Nat}(h:MkS w W S p T n K N M f pv wl l vs)(C:W.grownBy j row)(J:∀r,row=some r→T≤r):MkS w j S p T n K N M f pv wl l vs:=by
 have lo:=h.lo;have hi:=h.hi;have P:=h.top;have lt:∀{k:Nat} {o:Obj},W.heap[k]? = some o→k<W.heap.size:=λh=>(δ.1 h).1;have ne:∀k,k<T→some k≠row:=λk hk e=>by have:=J k e.symm;omega
 have k:∀v:Value,(∀g,v.ownBlock=some g→g<T)→v.ownBlock=none∨v.ownBlock≠row:=λv U=>by
  cases e:v.ownBlock with
  |none=>exact .inl rfl
  |some g=>exact .inr (ne g (U g e))
 exact⟨h.below.grown C h.below.size λr e=>by have:=J r e;omega,(C.block _ (lt h.res) (ne _ Ω)).trans h.res,h.env.kept C λr e=>by have:=J r e;omega,h.lo,h.hi,⟨h.top.1,ν h.top.2 C.size⟩,(C.block _ (lt h.box) (ne _ h.top.1)).trans h.box,
  h.want.kept C (k f h.wlt),h.parts.kept C (k pv h.plt),h.wlt,h.plt,h.held.all λx v R=>R.old C J⟩
def MkS.quiet {S:Nat}(h:MkS w W S p T n K N M f pv wl l vs)(g:W.grownBy j none):MkS w j S p T n K N M f pv wl l vs:=h.old g λr e=>by cases e
def MkS.mono {w W:World}{S p T T' n:Nat}{K N M:Int→Bool}{f pv:Value}{wl:List Int}{l:List PF}{vs:List (List Value)}(h:MkS w W S p T n K N M f pv wl l vs)(j:T≤T')(C:T'≤W.heap.size):MkS w W S p T' n K N M f pv wl l vs :=
 ⟨h.below,h.res,h.env,h.lo,h.hi,⟨g_ h.top.1 j,C⟩,h.box,h.want,h.parts,λg e=>g_ (h.wlt g e) j,λg e=>g_ (h.plt g e) j,h.held.all λx v r=>r.mono j⟩
def oG {f e size g:Nat}{v:Value}{p:List Value}(h:w.ownsRow f e size v n p)(l:v.ownBlock=some g):f≤g∧∃j,w.heap[g]? = some (.cells j e (0,0)):=by
 rcases h.2 with⟨rfl,_⟩|⟨J,cap,j,rfl,C,r,_⟩
 ·cases l
 ·injection l with l;obtain rfl:J=g:=l;exact⟨C,j,r⟩
def MkS.turn {S r:Nat}(h:MkS w W S p T n K N M f pv wl l vs)(U:W.grownBy j (some r))(hr:S+4≤r){J P:Value}
  (R:j.heap[p]? = some (.cells #[J,P] 31 (0,0))) (hw:j.ownsRow (S+4) 3 1 J C.length (intsI C)) (hp:j.ownsRow (S+4) 54 6 P l'.length vs'.flatten) (hwt:∀g,J.ownBlock=some g→g<T) (hpt:∀g,P.ownBlock=some g→g<T) (hh:bO j (S+4) T l' vs'):MkS w j S p T n K N M J P C l' vs':=by
 have lo:=h.lo;have lt:∀{k:Nat} {o:Obj},W.heap[k]? = some o→k<W.heap.size:=λh=>(δ.1 h).1;exact⟨h.below.grown U h.below.size λk e=>by injection e with e;omega,(U.block _ (lt h.res) λe=>by injection e with e;omega).trans h.res,h.env.kept U λk e=>by injection e with e;omega,h.lo,h.hi,⟨h.top.1,ν h.top.2 U.size⟩,R,hw,hp,hwt,hpt,hh⟩
def MkS.sorted {S:Nat}(h:MkS w W S p T n K N M f pv wl [] [])(l:W.grownBy j f.ownBlock)(P:j.ownsRow (S+4) 3 1 f C.length (intsI C)):MkS w j S p T n K N M f pv C [] []:=by
 cases e:f.ownBlock with
 |none =>rw[e]at l;have q:=h.quiet l;exact⟨q.below,q.res,q.env,q.lo,q.hi,q.top,q.box,P,q.parts,q.wlt,q.plt,apj⟩
 |some g=>
  rw[e]at l;obtain⟨U,J,R⟩:=oG h.want e;have r:p≠g:=λe'=>by have:=h.box;rw[e',R]at this;cases this
  exact h.turn l U ((l.block _ (δ.1 h.box).1 λe=>r (by injection e)).trans h.box) P (aJ h.parts l R λJ e=>by cases e) h.wlt h.plt trivial
def MkS.set {S:Nat}(h:MkS w W S p T n K N M f pv wl l vs){i:Nat}{v j r:Value}{P:Nat}(hT:T≤P)(hW:P≤W.heap.size)
  (hc:(#[f,pv]:Array Value).setIfInBounds i v = #[j,r]) (hw:W.ownsRow (S+4) 3 1 j C.length (intsI C)) (hp:W.ownsRow (S+4) 54 6 r l'.length vs'.flatten) (U:∀g,j.ownBlock=some g→g<P) (hpt:∀g,r.ownBlock=some g→g<P) (hh:bO W (S+4) P l' vs') :
  MkS w (W.setCell ⟨p,i,none⟩ v) S p P n K N M j r C l' vs':=by
 obtain⟨h1,R⟩:=eE h.box i v;rw[hc]at h1;exact(h.mono hT hW).turn R h.hi h1 (aJ hw R h.box λJ e=>by cases e) (aJ hp R h.box λJ e=>by cases e) U hpt (hh.all λx v hx=>hx.stays R h.box (λJ e=>by cases e) λJ e=>by cases e)
end Abs
namespace Abs
open Go Go.Proofs Go.RowKit Go.Maps Go.Shelf Tryz
def iJ (keep:WK→Bool)(c:CF):PF:=⟨{ c with wl:=c.wl.filter keep },c.wl.countP λx=>!keep x⟩
structure InS (w W:World)(S C T J n:Nat)(K N M:Int→Bool)(f pv:Value)(wl:List Int)(l:List PF)(vs:List (List Value))(c:CF)(p q:Value)(P:List WK)(le:Nat)(u:Value):Prop where
 ms:MkS w W S C T n K N M f pv wl l vs
 lo:T≤J
 box:W.heap[J]? = some (.cells #[.int .i64 c.st,p,q,.string c.nt,u,.int .i64 le] 54 (0,0))
 rp:W.ownsRow T 3 1 p c.ps.length (intsI c.ps)
 rq:W.ownsRow T 3 1 q c.qs.length (intsI c.qs)
 rr:W.ownsRow T 44 6 u P.length (flW P)
section
variable {w W j:World}{S C T J n:Nat}{K N M:Int→Bool}{f pv:Value}{wl:List Int}{l:List PF}{vs:List (List Value)}{c:CF}{p q:Value}{P:List WK}{le:Nat}{u:Value}
def InS.quiet (h:InS w W S C T J n K N M f pv wl l vs c p q P le u)(g:W.grownBy j none):InS w j S C T J n K N M f pv wl l vs c p q P le u :=
 ⟨h.ms.quiet g,h.lo,(g.block _ (δ.1 h.box).1 Ψ).trans h.box,dg h.rp g,dg h.rq g,dg h.rr g⟩
variable{v:Value}{ke' :List WK}{xs:List Value}
def InS.store (h:InS w W S C T J n K N M f pv wl l vs c p q P le u){i:Nat}{u' :Value}{le':Nat}
  (hc:(#[.int .i64 c.st,p,q,.string c.nt,u,.int .i64 le]:Array Value).setIfInBounds i v = #[.int .i64 c.st,p,q,.string c.nt,u',.int .i64 le']) (U:W.ownsRow T 44 6 u' ke'.length (flW ke')) :
  InS w (W.setCell ⟨J,i,none⟩ v) S C T J n K N M f pv wl l vs c p q ke' le' u':=by
 obtain⟨R,j⟩:=eE h.box i v;rw[hc]at R;exact⟨h.ms.old j λr e=>(by injection e with e;have:=h.lo;omega),h.lo,R,aJ h.rp j h.box λg e=>(by cases e),aJ h.rq j h.box λg e=>(by cases e),aJ U j h.box λg e=>(by cases e)⟩
def InS.turn (h:InS w W S C T J n K N M f pv wl l vs c p q P le u)(R:W.grownBy j u.ownBlock):MkS w j S C T n K N M f pv wl l vs∧j.heap[J]? = some (.cells #[.int .i64 c.st,p,q,.string c.nt,u,.int .i64 le] 54 (0,0))∧j.ownsRow T 3 1 p c.ps.length (intsI c.ps)∧j.ownsRow T 3 1 q c.qs.length (intsI c.qs):=by
 cases e:u.ownBlock with
 |none =>rw[e]at R;have q:=h.quiet R;exact⟨q.ms,q.box,q.rp,q.rq⟩
 |some g =>rw[e]at R;obtain⟨h1,U,h2⟩:=oG h.rr e;refine⟨h.ms.old R λr e=>(by injection e with e;omega),(R.block _ (δ.1 h.box).1 λe'=>?_).trans h.box,aJ h.rp R h2 λU e=>(by cases e),aJ h.rq R h2 λU e=>(by cases e)⟩;have:=h.box;injection e' with e';rw[e',h2]at this;cases this
def InS.push (h:InS w W S C T J n K N M f pv wl l vs c p q P le u)(hg:W.grownBy j u.ownBlock){u':Value}(hw:j.ownsRow T 44 6 u' ke'.length (flW ke'))(hs:T≤j.heap.size):InS w (j.setCell ⟨J,4,none⟩ u') S C T J n K N M f pv wl l vs c p q ke' le u':=by obtain⟨h1,U,h3,h4⟩:=h.turn hg;obtain⟨k1,R⟩:=eE U 4 u';exact⟨h1.old R λr e=>(by injection e with e;have:=h.lo;omega),h.lo,k1,aJ h3 R U λg e=>(by cases e),aJ h4 R U λg e=>(by cases e),aJ hw R U λg e=>(by cases e)⟩
def MkS.turn2 {row:Option Nat}(h:MkS w W S C T n K N M f pv wl l vs)(hg:W.grownBy j row)(hr:∀r,row=some r→S+4≤r∧r≠C){i T':Nat}{p J :Value}{R:List Int}{l':List PF}{U:List (List Value)}(hT:T≤T')(hW:T'≤j.heap.size)
  (hc:(#[f,pv]:Array Value).setIfInBounds i v = #[p,J]) (hw:j.ownsRow (S+4) 3 1 p R.length (intsI R)) (hp:j.ownsRow (S+4) 54 6 J l'.length U.flatten) (hwt:∀g,p.ownBlock=some g→g<T') (hpt:∀g,J.ownBlock=some g→g<T') (hh:bO j (S+4) T' l' U) :
  MkS w (j.setCell ⟨C,i,none⟩ v) S C T' n K N M p J R l' U:=by
 have hlo:=h.lo;have hhi:=h.hi;have lt:∀{k:Nat} {o:Obj},W.heap[k]? = some o→k<W.heap.size:=λh=>(δ.1 h).1;have hb:=(hg.block _ (lt h.box) λe=>(hr C e.symm).2 rfl).trans h.box;obtain⟨h1,h2⟩:=eE hb i v;rw[hc]at h1;have P:=(hg.block _ (lt h.res) λe=>by have:=(hr _ e.symm).1;omega).trans h.res;exact⟨(h.below.grown hg h.below.size λr e=>by have:=(hr r e).1;omega).grown h2 (ν h.below.size hg.size) λr e=>(by injection e with e;omega),(h2.block _ (δ.1 P).1 λe=>(by injection e with e;omega)).trans P,
  (h.env.kept hg λr e=>by have:=(hr r e).1;omega).kept h2 λr e=>(by injection e with e;omega),h.lo,h.hi,⟨g_ h.top.1 hT,ν hW h2.size⟩,h1,aJ hw h2 hb λcur e=>(by cases e),aJ hp h2 hb λcur e=>(by cases e),hwt,hpt,
  hh.all λx v hx=>hx.stays h2 hb (λcur e=>(by cases e)) λcur e=>(by cases e)⟩
def DX {B e size n:Nat}(h:W.ownsRow B e size v n xs):∀g,v.ownBlock=some g→g<W.heap.size:=λg e=>by obtain⟨_,f,h⟩:=oG h e;exact(δ.1 h).1
def wg {B B' e P size f n T:Nat}{r :Value}{p :List Value}(h:W.ownsRow B e size v n xs)(h':W.ownsRow B' P f r T p)(l:W.grownBy j r.ownBlock)(J:P≠e):j.ownsRow B e size v n xs:=by
 cases C:r.ownBlock with
 |none=>rw[C]at l;exact dg h l
 |some g=>
  rw[C]at l;obtain⟨_,cur,U⟩:=oG h' C;exact aJ h l U λR e=>by cases e;exact J rfl
def MkS.boxP (h:MkS w W S C T n K N M f pv wl l vs)(g:W.grownBy j pv.ownBlock):j.heap[C]? = some (.cells #[f,pv] 31 (0,0)) :=
 (g.block _ (δ.1 h.box).1 λe=>by
  obtain⟨_,r,p⟩:=oG h.parts e.symm;have:=h.box;rw[p]at this;cases this).trans h.box
def InS.done {keep:WK→Bool}(h:InS w W S C T J n K N M f pv wl l vs c p q (c.wl.filter keep) (c.wl.countP λx=>!keep x) u)(R:W.grownBy j pv.ownBlock){pv':Value}
  (ho:j.ownsRow (S+4) 54 6 pv' (l.length+1) (vs.flatten++[.int .i64 c.st,p,q,.string c.nt,u,.int .i64 (c.wl.countP λx=>!keep x:Nat)])) :
  MkS w (j.setCell ⟨C,1,none⟩ pv') S C j.heap.size n K N M f pv' wl (l++[iJ keep c]) (vs++[[.int .i64 c.st,p,q,.string c.nt,u,.int .i64 (c.wl.countP λx=>!keep x:Nat)]]):=by
 have hlo:=h.ms.lo;have hhi:=h.ms.hi;have U:=h.ms.top;have P:=h.ms.parts;have hp:=wg h.rp P R Ϛ;have hq:=wg h.rq P R Ϛ;have hu:=wg h.rr P R Ϛ;refine h.ms.turn2 R (λr e=>?_) (ν U.2 R.size) (ζ _) rfl (wg h.ms.want P R Ϛ) (by simpa using ho) (λg e=>g_ (h.ms.wlt g e) (ν U.2 R.size)) (DX ho) (bO.push ?_ (h.ms.held.all λx v hx=>?_))
 ·obtain⟨h1,cur,h2⟩:=oG P e;refine⟨h1,λe'=>?_⟩;have:=h.ms.box;rw[←e',h2]at this;cases this
 ·exact⟨p,q,u,rfl,fJ hp Ω,fJ hq Ω,fJ hu Ω,λg e=>e.elim (DX hp g) λe=>e.elim (DX hq g) (DX hu g)⟩
 ·have hx:=hx.mono (T':=j.heap.size) (ν U.2 R.size);cases hv:pv.ownBlock with
  |none=>rw[hv]at R;exact hx.old R λr e=>by cases e
  |some g =>rw[hv]at R;obtain⟨_,cur,ho⟩:=oG P hv;exact hx.stays R ho (λcur e=>(by cases e)) λcur e=>(by cases e)
end
def fg.lo {W:World}{B j T:Nat}{x:PF}{vs:List Value}(h:fg W j T x vs)(g:B≤j):fg W B T x vs:=by obtain⟨pv,l,f,rfl,J,C,r,p⟩:=h;exact⟨pv,l,f,rfl,fJ J g,fJ C g,fJ r g,p⟩
variable{w:World}{l:List WK}{m:Nat}
def aeg {b:Nat}{r p v0 v1:Value}{t:TypeId}(h:w.heap[b]? = some (.cells #[r,p] t (0,0))) :
  ((w.setCell ⟨b,0,none⟩ v0).setCell ⟨b,1,none⟩ v1).heap[b]? = some (.cells #[v0,v1] t (0,0))∧w.grownBy ((w.setCell ⟨b,0,none⟩ v0).setCell ⟨b,1,none⟩ v1) (some b):=by
 obtain⟨g,l⟩:=eE h 0 v0;obtain⟨f,j⟩:=eE g 1 v1;exact⟨by simpa using f,mZ l j⟩
def Qj {f :World}(h:Below w.heap.size w f):w.grownBy f none:=⟨h.os,h.tape,h.output,h.size,λk g _=>h.block k g⟩
def MkS.fin {W:World}{S C T n:Nat}{K N M:Int→Bool}{f pv:Value}{p:List Int}{l:List PF}{r:List (List Value)}(h:MkS w W S C T n K N M f pv p l r) :
  ((W.setCell ⟨w.heap.size,0,none⟩ f).setCell ⟨w.heap.size,1,none⟩ pv).heap[w.heap.size]? = some (.cells #[f,pv] 31 (0,0))∧Below w.heap.size w ((W.setCell ⟨w.heap.size,0,none⟩ f).setCell ⟨w.heap.size,1,none⟩ pv) ∧
   ((W.setCell ⟨w.heap.size,0,none⟩ f).setCell ⟨w.heap.size,1,none⟩ pv).ownsRow w.heap.size 3 1 f p.length (intsI p)∧((W.setCell ⟨w.heap.size,0,none⟩ f).setCell ⟨w.heap.size,1,none⟩ pv).ownsRow w.heap.size 54 6 pv l.length r.flatten ∧
   bO ((W.setCell ⟨w.heap.size,0,none⟩ f).setCell ⟨w.heap.size,1,none⟩ pv) w.heap.size ((W.setCell ⟨w.heap.size,0,none⟩ f).setCell ⟨w.heap.size,1,none⟩ pv).heap.size l r:=by
 have P:=h.lo;obtain⟨R,j⟩:=aeg (v0:=f) (v1:=pv) h.res;exact⟨R,h.below.grown j h.below.size λk e=>(by injection e with e;omega),fJ (aJ h.want j h.res λg e=>(by cases e)) Ω,fJ (aJ h.parts j h.res λg e=>(by cases e)) Ω,
  h.held.all λx v J=>((J.stays j h.res (λg e=>(by cases e)) λg e=>(by cases e)).lo Ω).mono (ν h.top.2 j.size)⟩
def MkL (w:World)(S C n:Nat)(K N M:Int→Bool)(f:Value)(j:List Int)(keep:WK→Bool)(g:List CF)(i:Value)(wr:World):Prop :=
 ∃k:Nat,k≤g.length∧i = .int .i64 k∧∃T pv l,MkS w wr S C T n K N M f pv j ((g.take k).map (iJ keep)) l
def MkI (w:World)(S C T J n:Nat)(K N M:Int→Bool)(f pv:Value)(g:List Int)(l:List PF)(j:List (List Value))(c:CF)(p q:Value)(keep:WK→Bool)(i:Value)(wr:World):Prop :=
 ∃m:Nat,m≤c.wl.length∧i = .int .i64 m∧∃u,InS w wr S C T J n K N M f pv g l j c p q ((c.wl.take m).filter keep) ((c.wl.take m).countP λx=>!keep x) u
def W8 {keep:WK→Bool}(h:m<l.length)(f:keep l[m]=true):(l.take (m+1)).filter keep=(l.take m).filter keep++[l[m]]∧(l.take (m+1)).countP (λx=>!keep x)=(l.take m).countP λx=>!keep x:=by rw[Z' h,n?,alr];simp only[S?,alL,ak8,List.countP_nil,f];simp
def Xa {keep:WK→Bool}(h:m<l.length)(f:keep l[m]=false):(l.take (m+1)).filter keep=(l.take m).filter keep∧(l.take (m+1)).countP (λx=>!keep x)=(l.take m).countP (λx=>!keep x)+1:=by rw[Z' h,n?,alr];simp only[S?,alL,ak8,List.countP_nil,f];simp
end Abs
namespace Abs
open Go Go.Proofs Go.RowKit Go.Maps Go.Shelf Tryz
def Me (f:List (List WK))(ws:List Int)(r:GoodW f ws)(w:World)(A J:Option Addr)(cap g:Nat)(C:dP w w.heap.size A f)(p:nG w w.heap.size J ws):Calls prog 34 #[.slice A f.length cap,.slice J ws.length g] w λe j=>∃S l,e = .returned (.func (.func 65) #[] #[.pointer (some ⟨w.heap.size+1,0,none⟩),.pointer (some ⟨S+1+1,0,none⟩),.pointer (some ⟨S+1+1+1,0,none⟩)])∧iW l (RchK f.flatten ws)∧Below w.heap.size w j∧w.heap.size+2≤S∧S+4≤j.heap.size ∧
   KEnv j w.heap.size (w.heap.size+1) S (S+1) (S+1+1) (S+1+1+1) f.flatten.length (λx=>l.contains x) (fM f.flatten) (fO (λx=>l.contains x) f.flatten) :=
 (callsIn_wide (n:=9)).1 (Yu f ws r w A J cap g C p)
def ints_of_sl {w:World}{B:Nat}{A:Option Addr}{n c:Nat}{l:List Int}(h:nJ w B (.slice A n c) n (intsI l))(C:n=l.length):nG w B A l:=λJ=>by obtain⟨R,P,e,_,r⟩:=h;cases e;obtain⟨b,o,e,f,p⟩:=r Ω;exact⟨b,o,e,f,λj g=>p j _ (by simp[intsI,g])⟩
def PZ (f:List Int)(all:List WK)(x:WK):Bool:=qM (λx=>f.contains x) (fM all) (fO (λx=>f.contains x) all) x
def aju:(prog.info? 54).map (λi=>(i.zero,i.size,i.bytes))=some (some (.agg #[.int .i64 0,.slice none 0 0,.slice none 0 0,.string ByteArray.empty,.slice none 0 0,.int .i64 0]),6,104):=Φ
def ahf:prog.underlying 29=some (.slice 54):=Φ
set_option maxRecDepth 100000 in
set_option maxHeartbeats 3200000 in
def Yd (f:List CF)(ws:List Int)(hgd:GoodW (f.map (·.wl)) ws)(hpq:∀c∈f,c.ps.length≤1048576∧c.qs.length≤1048576)(w:World)(A A2:Option Addr)(cap cap2:Nat)(hcs:xX w w.heap.size A f)(hws:nJ w w.heap.size (.slice A2 ws.length cap2) ws.length (intsI ws))
  (hsort:∀(keep:WK→Bool) (W:World) (B T:Nat) (v:Value) (vs:List (List Value)),W.ownsRow B 54 6 v (f.map (iJ keep)).length vs.flatten→bO W B T (f.map (iJ keep)) vs→Calls prog 39 #[v,.func (.func 40) #[] #[]] W λe W'=>e = .returned (.tuple #[])∧Below W.heap.size W W') :
  Calls prog 13 #[.slice A f.length cap,.slice A2 ws.length cap2] w λe w'=>∃wv pv ks vs,e = .returned (.agg #[wv,pv])∧iW ks (RchK (f.map (·.wl)).flatten ws)∧Below w.heap.size w w' ∧
   w'.ownsRow w.heap.size 3 1 wv (zA ws).length (intsI (zA ws))∧w'.ownsRow w.heap.size 54 6 pv f.length vs.flatten∧bO w' w.heap.size w'.heap.size (f.map (iJ (PZ ks (f.map (·.wl)).flatten))) vs:=by
 have hwn:=hgd.wn
 go_enter func13,ntmps13
 go_upto_region 1 with fail
 obtain⟨W0,hW0⟩:∃W0,w.alloc (.cells #[.slice none 0 0,.slice none 0 0] 31)=W0:=⟨_,rfl⟩;have hb0:Below w.heap.size w W0:=by rw[←hW0];exact(Below.refl _ w).alloc (ζ _) _
 have hs0:W0.heap.size=w.heap.size+1:=by rw[←hW0];simp
 have hc0:W0.heap[w.heap.size]? = some (.cells #[.slice none 0 0,.slice none 0 0] 31 (0,0)):=by rw[←hW0];exact World.alloc_heap_new w _
 rw[hW0];clear hW0;have hkp:=Me (f.map (·.wl)) ws hgd W0 A A2 cap cap2 ((hcs.keep hb0).mono Ω).comms (ints_of_sl ((hws.keep hb0).mono Ω) rfl);rw[e_]at hkp
 go_upto_region 2 with(first
  |(go_at_call 34;refine hkp.mono ?_;rintro e W1 ⟨S,ks,rfl,hasc,hb1,hlo,hhi,henv⟩)
  |go_in)
 clear hkp;have hb01:=hb0.trans (hb1.mono Ω);have hc1:=(hb1.block w.heap.size Ω).trans hc0;have hwsl:=(hws.keep hb01).mono (by omega:w.heap.size≤W1.heap.size)
 go_upto_region 3 with(first
  |(go_at_call 35;refine(sR ws Ω W1 _ hwsl).mono ?_;rintro e W2 ⟨v2,rfl,hr2,hg2⟩
    obtain⟨B2,d2,rfl⟩:=bZ hr2)
  |go_in)
 have hM3:MkS w (W2.alloc (.cells #[.slice B2 ws.length d2,.slice none 0 0] 31)) S W2.heap.size (W2.heap.size+1) (f.map (·.wl)).flatten.length (λx=>ks.contains x) (fM (f.map (·.wl)).flatten) (fO (λx=>ks.contains x) (f.map (·.wl)).flatten) (.slice B2 ws.length d2) (.slice none 0 0) ws [] []:=by
  have g3:=hg2.trans (ω W2 (.cells #[.slice B2 ws.length d2,.slice none 0 0] 31) none);rw[hs0]at henv hlo;have hs2:=hg2.size;exact⟨hb01.grown g3 hb01.size (λk e=>by cases e),(g3.block _ (δ.1 hc1).1 Ψ).trans hc1,henv.quiet g3,Ω,Ω,⟨Nat.lt_succ_self _,Ψ⟩,World.alloc_heap_new _ _,
   fJ (dg hr2 (ω _ _ none)) Ω,⟨rfl,.inl ⟨rfl,rfl⟩⟩,λg e=>Nat.lt_succ_of_lt (by
    obtain⟨_,cur,h⟩:=oG hr2 e;exact(δ.1 h).1),λg e=>(by cases e),apj⟩
 generalize hb6:W2.heap.size=b6 at hM3⊢;generalize W2.alloc (.cells #[.slice B2 ws.length d2,.slice none 0 0] 31)=W3 at hM3⊢;clear henv hlo hhi hb1 hwsl hr2 hg2 hb01 hc1 hc0 hb0 hb6;have hbx:=(aj hM3.box 0 rfl).1
 go_upto_region 4 with(first
  |(go_at_call 36;refine(Xl hM3.want Ω).mono ?_;rintro e W4 ⟨rfl,hr4,hg4⟩)
  |go_in)
 have hM4:=hM3.sorted hg4 (by rw[akG];exact hr4);clear hg4 hr4 hbx hM3;have hbx:=(aj hM4.box 0 rfl).1;have hwm:(ws.mergeSort λx y=>decide (x≤y)).length=ws.length:=akG ws
 go_upto_region 5 with(first
  |(go_at_call 37;refine(MJ hM4.want Ω).mono ?_;rintro e W5 ⟨v5,rfl,hr5,hg5,he5,rs5,ho5⟩
    obtain⟨B5,d5,rfl⟩:=bZ hr5;have hM5:=hM4.sorted hg5 ho5;have hcb:=(aj hM5.box 0 rfl).1;have hfb:=(aj hM5.box 0 rfl).2)
  |go_in)
 have hM6:=hM5.set (ζ _) hM5.top.2 (i:=0) (v :=.slice B5 (Lib.compact (ws.mergeSort λx y=>decide (x≤y))).length d5) rfl hr5 hM5.parts (λg e=>hM4.wlt g (he5 ▸ e)) hM5.plt hM5.held;generalize W5.setCell ⟨b6,0,none⟩ (.slice B5 (Lib.compact (ws.mergeSort λx y=>decide (x≤y))).length d5)=W6 at hM6⊢;clear hbx hcb hfb hM5 hM4 hr5 hg5 he5 ho5 hwm hwn;generalize hall:(f.map (·.wl)).flatten=all at *;obtain⟨keep,hkeep⟩:∃keep:WK→Bool,keep=PZ ks all:=⟨_,rfl⟩;have hkb:∀x,qM (λx=>ks.contains x) (fM all) (fO (λx=>ks.contains x) all) x=keep x:=λx=>by rw[hkeep];rfl
 generalize (λx=>ks.contains x)=K at hM6 hkb;generalize fM all=N at hM6 hkb;generalize fO K all=M at hM6 hkb;change MkS w W6 S b6 (b6+1) all.length K N M (.slice B5 (zA ws).length d5) (.slice none 0 0) (zA ws) [] []at hM6;generalize all.length=n at hM6;have hkeepA:Aside (keep=PZ ks all):=hkeep;have hallA:Aside ((f.map (·.wl)).flatten=all):=hall;clear hws hkeep hall;have hcn:=hgd.n;rw[e_]at hcn
 go_wp2
 go_loopw [27] (λi wr=>MkL w S b6 n K N M (.slice B5 (zA ws).length d5) (zA ws) keep f i wr) (λi _=>f.length-(Go.RowKit.intOf i).toNat)
 case atStart=>exact⟨0,k_ _,rfl,b6+1,_,[],hM6⟩
 case round=>
  clear hM6;obtain⟨k,hk,rfl,T,pv,vs,hM⟩:=hrel;by_cases hlt:k<f.length
  ·obtain⟨b,off,rfl,hbl,hcell⟩:=hcs Ω;obtain⟨pv0,qv0,wv0,q0,q1,q2,q3,q4,hsp,hsq,hsW⟩:=hcell k hlt;have tr:∀o v,w.cell? ⟨b,o,none⟩=some v→wr.cell? ⟨b,o,none⟩=some v:=λo v h=>(hM.below.cell (p:=⟨b,o,none⟩) hbl).trans h;have q0:=tr _ _ q0;have q1:=tr _ _ q1;have q2:=tr _ _ q2;have q3:=tr _ _ q3;have q4:=tr _ _ q4;have hsp:=hsp.keep hM.below;have hsq:=hsq.keep hM.below;have hsw:=hsW.keep hM.below;clear tr;obtain⟨A1,c1,rfl, -⟩:=id hsp;obtain⟨A2',c2,rfl, -⟩:=id hsq;obtain⟨A3,c3,rfl, -⟩:=id hsw;clear hcell
   go_upto_region 8 with fail
   have hgX:=ω wr (.cells #[.int .i64 f[k].st,.slice A1 f[k].ps.length c1,.slice A2' f[k].qs.length c2,.string f[k].nt,.slice A3 f[k].wl.length c3] 38) none;have r:=World.alloc_heap_new wr (.cells #[.int .i64 f[k].st,.slice A1 f[k].ps.length c1,.slice A2' f[k].qs.length c2,.string f[k].nt,.slice A3 f[k].wl.length c3] 38);have hXs:(wr.alloc (.cells #[.int .i64 f[k].st,.slice A1 f[k].ps.length c1,.slice A2' f[k].qs.length c2,.string f[k].nt,.slice A3 f[k].wl.length c3] 38)).heap.size=wr.heap.size+1:=by simp
   generalize wr.alloc (.cells #[.int .i64 f[k].st,.slice A1 f[k].ps.length c1,.slice A2' f[k].qs.length c2,.string f[k].nt,.slice A3 f[k].wl.length c3] 38)=X at hgX r hXs⊢;have hMX:=(hM.mono hM.top.2 (ζ _)).quiet hgX;have hwr:=hM.below.size;have hbX:Below w.heap.size wr X:=(Below.refl w.heap.size wr).grown hgX hwr λk e=>by cases e
   have hcop:=MH f[k].st _ _ _ f[k].nt f[k].ps f[k].qs f[k].wl X (hpq _ (a_ hlt)).1 (hpq _ (a_ hlt)).2 (hgd.m _ (z? (a_ hlt))) ((hsp.keep hbX).mono Ω) ((hsq.keep hbX).mono Ω) ((hsw.keep hbX).mono Ω);have k0:=(aj r 0 rfl).1;have k1:=(aj r 1 rfl).1;have k2:=(aj r 2 rfl).1;have k3:=(aj r 3 rfl).1;have k4:=(aj r 4 rfl).1;clear q0 q1 q2 q3 q4 hsp hsq hsw hM
   go_upto_region 9 with(first
    |(go_at_call 38;refine hcop.mono ?_;rintro e Y ⟨p,q,y,rfl,hgY,hrp,hrq,hry⟩
      obtain⟨P1,e1,rfl⟩:=bZ hrp;obtain⟨P2,e2,rfl⟩:=bZ hrq;obtain⟨P3,e3,rfl⟩:=bZ hry)
    |go_in)
   have hgZ:=hgY.trans (ω Y (.cells #[.int .i64 f[k].st,.slice P1 f[k].ps.length e1,.slice P2 f[k].qs.length e2,.string f[k].nt,.slice P3 f[k].wl.length e3,.int .i64 0] 54) none);have hlY:=hgY.size;have l:InS w (Y.alloc (.cells #[.int .i64 f[k].st,.slice P1 f[k].ps.length e1,.slice P2 f[k].qs.length e2,.string f[k].nt,.slice P3 f[k].wl.length e3,.int .i64 0] 54)) S b6 wr.heap.size Y.heap.size n K N M (.slice B5 (zA ws).length d5) pv (zA ws) ((f.take k).map (iJ keep)) vs f[k] (.slice P1 f[k].ps.length e1) (.slice P2 f[k].qs.length e2) f[k].wl 0 (.slice P3 f[k].wl.length e3) :=
    ⟨hMX.quiet hgZ,Ω,World.alloc_heap_new _ _,fJ (dg hrp (ω _ _ _)) Ω,fJ (dg hrq (ω _ _ _)) Ω,fJ (dg hry (ω _ _ _)) Ω⟩
   have r:=(hgZ.block _ (δ.1 r).1 Ψ).trans r;generalize hb9:Y.heap.size=b9 at l⊢;generalize Y.alloc (.cells #[.int .i64 f[k].st,.slice P1 f[k].ps.length e1,.slice P2 f[k].qs.length e2,.string f[k].nt,.slice P3 f[k].wl.length e3,.int .i64 0] 54)=Z at l r hgZ⊢;clear hMX hcop k0 k1 k2 k3 k4 hrp hrq hry hgY;have z4:=(aj l.box 4 rfl).1;have y4:=(aj l.box 4 rfl).2
   go_upto_region 10 with fail
   have hI2:=l.store (i:=4) (v :=.slice none 0 0) (u' :=.slice none 0 0) (ke':=[]) (le':=0) rfl ⟨rfl,.inl ⟨rfl,rfl⟩⟩;have r:(Z.setCell ⟨b9,4,none⟩ (.slice none 0 0)).heap[wr.heap.size]? = _:=(heap_setCell_other _ _ _ _ (by show wr.heap.size≠b9;omega)).trans r;generalize Z.setCell ⟨b9,4,none⟩ (.slice none 0 0)=V at hI2 r⊢;have k4:=(aj r 4 rfl).1;clear l z4 y4 hgZ;have hVs:wr.heap.size≤V.heap.size:=by have:=hI2.ms.top.2;omega
   clear r hgX hXs hlY hb9 hbX
   go_wp2
   clear k4;generalize wr.heap.size=T0 at *
   go_loopw [39] (λj wx=>MkI w S b6 T0 b9 n K N M (.slice B5 (zA ws).length d5) pv (zA ws) ((f.take k).map (iJ keep)) vs f[k] (.slice P1 f[k].ps.length e1) (.slice P2 f[k].qs.length e2) keep j wx) (λj _=>f[k].wl.length-(Go.RowKit.intOf j).toNat)
   case atStart=>exact⟨0,k_ _,rfl,_,hI2⟩
   case round=>
    clear hI2;obtain⟨m,hm,rfl,u,l⟩:=hrel;have hml:=hgd.m _ (z? (a_ hlt));by_cases hmt:m<f[k].wl.length
    ·obtain⟨pb,po,rfl,hpb,hwr⟩:=Np hsW m hmt;obtain⟨x0,x1,x2,x3,x4,x5⟩:=hwr.keep l.ms.below hpb;have hxi:=(hgd.wf f[k].wl[m] (akI.2 ⟨_,z? (a_ hlt),a_ hmt⟩)).1
     go_upto_region 13 with fail
     have hgR:=ω wr (.cells #[.int .i64 f[k].wl[m].id,.int .i64 f[k].wl[m].fd,.int .i64 f[k].wl[m].nn,.bool f[k].wl[m].fl,.string f[k].wl[m].tx,.int .i64 f[k].wl[m].rf] 44) none;have U:=World.alloc_heap_new wr (.cells #[.int .i64 f[k].wl[m].id,.int .i64 f[k].wl[m].fd,.int .i64 f[k].wl[m].nn,.bool f[k].wl[m].fl,.string f[k].wl[m].tx,.int .i64 f[k].wl[m].rf] 44);generalize wr.alloc (.cells #[.int .i64 f[k].wl[m].id,.int .i64 f[k].wl[m].fd,.int .i64 f[k].wl[m].nn,.bool f[k].wl[m].fl,.string f[k].wl[m].tx,.int .i64 f[k].wl[m].rf] 44)=R at hgR U⊢;have l:=l.quiet hgR;clear x0 x1 x2 x3 x4 x5 hwr hgR;generalize wr.heap.size=b11 at U⊢;have hkc:=TD R (w.heap.size+1) (w.heap.size+1+1) S (S+1) (S+1+1) (S+1+1+1) n K N M l.ms.env f[k].wl[m] hxi;rw[hkb]at hkc;have r0:=(aj U 0 rfl).1;have r1:=(aj U 1 rfl).1;have r2:=(aj U 2 rfl).1;have r3:=(aj U 3 rfl).1;have r4:=(aj U 4 rfl).1;have r5:=(aj U 5 rfl).1;cases hkx:keep f[k].wl[m]with
     |true=>
      rw[hkx]at hkc
      go_upto_region 14 with(first
       |(go_at_call 65;refine hkc.mono ?_;rintro e R2 ⟨rfl,hR2⟩)
       |go_in)
      have J:=ω R (.cells #[.int .i64 f[k].wl[m].id,.int .i64 f[k].wl[m].fd,.int .i64 f[k].wl[m].nn,.bool f[k].wl[m].fl,.string f[k].wl[m].tx,.int .i64 f[k].wl[m].rf] 44) none;rw[←hR2]at J⊢;have U:=(J.block _ (δ.1 U).1 Ψ).trans U;have l:=l.quiet J;clear r0 r1 r2 r3 r4 r5 hR2 J hkc;have r0:=(aj U 0 rfl).1;have r1:=(aj U 1 rfl).1;have r2:=(aj U 2 rfl).1;have r3:=(aj U 3 rfl).1;have r4:=(aj U 4 rfl).1;have r5:=(aj U 5 rfl).1;obtain⟨UA,uc,rfl⟩:=bZ l.rr;have z4:=(aj l.box 4 rfl).1;have hkl:((f[k].wl.take m).filter keep).length≤1048576:=ν (F_ _ _) (by rw[p_];omega);obtain⟨i0,hi0,hz0,hz1,hz2⟩:=info_parts ag1;have harr:=World.alloc_heap_new R2 (.cells #[.int .i64 f[k].wl[m].id,.int .i64 f[k].wl[m].fd,.int .i64 f[k].wl[m].nn,.bool f[k].wl[m].fl,.string f[k].wl[m].tx,.int .i64 f[k].wl[m].rf] 44);have hgA:=ω R2 (.cells #[.int .i64 f[k].wl[m].id,.int .i64 f[k].wl[m].fd,.int .i64 f[k].wl[m].nn,.bool f[k].wl[m].fl,.string f[k].wl[m].tx,.int .i64 f[k].wl[m].rf] 44) none;have hnew:Aside (∀j v,(gH f[k].wl[m])[j]? = some v→(R2.alloc (.cells #[.int .i64 f[k].wl[m].id,.int .i64 f[k].wl[m].fd,.int .i64 f[k].wl[m].nn,.bool f[k].wl[m].fl,.string f[k].wl[m].tx,.int .i64 f[k].wl[m].rf] 44)).cell? (Addr.add ⟨R2.heap.size,0,none⟩ j)=some v):=λj v hj=>by
       have:(gH f[k].wl[m]).toArray[j]? = some v:=by rw[abs];exact hj
       rw[Addr.add_mid,Wg harr,b_];exact this
      have hone:Aside (∀u∈gH f[k].wl[m],u.oneCell'=true):=λu (hu:u∈gH f[k].wl[m])=>VN [f[k].wl[m]] u (by simpa[flW]using hu);have C:=l.quiet hgA;have htR:=C.ms.top.2
      go_upto_region 16 with(first
       |(at_builtin;refine cY _ rfl (.tmp 48) (.tmp 50) 36 rfl T0 44 i0 (.agg #[.int .i64 0,.int .i64 0,.int .i64 0,.bool false,.string ByteArray.empty,.int .i64 0]) 6 56 (ml) hi0 hz0 hz1 hz2 rfl Ϛ (.slice UA ((f[k].wl.take m).filter keep).length uc) _ (flW ((f[k].wl.take m).filter keep)) rfl C.rr (some ⟨R2.heap.size,0,none⟩) 1 1 (gH f[k].wl[m]) rfl rfl (.inr ⟨_,rfl,hnew.out⟩) hone.out (by unfold maxLen;omega) Ω htR ?_;intro v' w' h2 g2 _
         obtain⟨V1,v1,rfl⟩:=bZ h2;have hT:=C.turn g2;have t4:=(aj hT.2.1 4 rfl).1;have y4:=(aj hT.2.1 4 rfl).2)
       |go_in)
      obtain⟨tk1,tk2⟩:=W8 hmt hkx;have hI5:=C.push g2 (u' :=.slice V1 (((f[k].wl.take m).filter keep).length+1) v1) (ke':=(f[k].wl.take (m+1)).filter keep) (by rw[tk1,afJ,N'];exact h2) hT.1.top.2;rw[←tk2]at hI5;clear hT t4 y4 hnew hone C htR
      go_wp2
      go_roundw
      case rel=>exact⟨m+1,hmt,Ψ,_,hI5⟩
      case measure=>simp[Go.RowKit.intOf];omega
     |false=>
      rw[hkx]at hkc
      go_upto_region 15 with(first
       |(go_at_call 65;refine hkc.mono ?_;rintro e R2 ⟨rfl,hR2⟩)
       |go_in)
      have J:=ω R (.cells #[.int .i64 f[k].wl[m].id,.int .i64 f[k].wl[m].fd,.int .i64 f[k].wl[m].nn,.bool f[k].wl[m].fl,.string f[k].wl[m].tx,.int .i64 f[k].wl[m].rf] 44) none;rw[←hR2]at J⊢;have l:=l.quiet J;clear r0 r1 r2 r3 r4 r5 hR2 J hkc U;have z5:=(aj l.box 5 rfl).1;have y5:=(aj l.box 5 rfl).2;have hcl:(f[k].wl.take m).countP (λx=>!keep x)≤1048576:=ν amd (by rw[p_];omega);obtain⟨tk1,tk2⟩:=Xa hmt hkx
      go_wp2
      go_roundw
      case rel =>refine⟨m+1,hmt,Ψ,u, ?_⟩;rw[tk1,tk2];have:=l.store (i:=5) (v :=.int .i64 ((f[k].wl.take m).countP (λx=>!keep x)+1:Nat)) (u':=u) (le':=(f[k].wl.take m).countP (λx=>!keep x)+1) rfl l.rr;simpa using this
      case measure=>simp[Go.RowKit.intOf];omega
    ·obtain rfl:m=f[k].wl.length:=Ω
     rw[S_]at l;obtain⟨VP,vp,hvp⟩:=bZ l.ms.parts;have hlk:((f.take k).map (iJ keep)).length=k:=by rw[e_,p_];omega
     rw[hlk]at hvp;rw[hvp]at l;have z1:=(aj l.ms.box 1 rfl).1;have w0:=(aj l.box 0 rfl).1;have w1:=(aj l.box 1 rfl).1;have w2:=(aj l.box 2 rfl).1;have w3:=(aj l.box 3 rfl).1;have w4:=(aj l.box 4 rfl).1;have w5:=(aj l.box 5 rfl).1;obtain⟨i0,hi0,hz0,hz1,hz2⟩:=info_parts aju;have hus:u.oneCell'=true:=by obtain⟨UA,uc,rfl⟩:=bZ l.rr;rfl
     have harr:=World.alloc_heap_new wr (.cells #[.int .i64 f[k].st,.slice P1 f[k].ps.length e1,.slice P2 f[k].qs.length e2,.string f[k].nt,u,.int .i64 (f[k].wl.countP λx=>!keep x:Nat)] 54);have hgA:=ω wr (.cells #[.int .i64 f[k].st,.slice P1 f[k].ps.length e1,.slice P2 f[k].qs.length e2,.string f[k].nt,u,.int .i64 (f[k].wl.countP λx=>!keep x:Nat)] 54) none;have hnew:Aside (∀j v,([.int .i64 f[k].st,.slice P1 f[k].ps.length e1,.slice P2 f[k].qs.length e2,.string f[k].nt,u,.int .i64 (f[k].wl.countP λx=>!keep x:Nat)]:List Value)[j]? = some v→(wr.alloc (.cells #[.int .i64 f[k].st,.slice P1 f[k].ps.length e1,.slice P2 f[k].qs.length e2,.string f[k].nt,u,.int .i64 (f[k].wl.countP λx=>!keep x:Nat)] 54)).cell? (Addr.add ⟨wr.heap.size,0,none⟩ j)=some v):=λj v hj=>by
      have:([.int .i64 f[k].st,.slice P1 f[k].ps.length e1,.slice P2 f[k].qs.length e2,.string f[k].nt,u,.int .i64 (f[k].wl.countP λx=>!keep x:Nat)]:List Value).toArray[j]? = some v:=by rw[abs];exact hj
      rw[Addr.add_mid,Wg harr,b_];exact this
     have hone:Aside (∀v∈([.int .i64 f[k].st,.slice P1 f[k].ps.length e1,.slice P2 f[k].qs.length e2,.string f[k].nt,u,.int .i64 (f[k].wl.countP λx=>!keep x:Nat)]:List Value),v.oneCell'=true):=λv hv=>by
      simp only[J',List.not_mem_nil,or_false]at hv;obtain rfl|rfl|rfl|rfl|rfl|rfl:=hv <;> first|rfl|exact hus
     have C:=l.quiet hgA;have htR:=C.ms.top.2;have hS6:S+4≤(wr.alloc (.cells #[.int .i64 f[k].st,.slice P1 f[k].ps.length e1,.slice P2 f[k].qs.length e2,.string f[k].nt,u,.int .i64 (f[k].wl.countP λx=>!keep x:Nat)] 54)).heap.size:=by have:=C.ms.top.1;have:=C.ms.hi;omega
     have P:=C.ms.parts;rw[hlk]at P;have hlkA:Aside (((f.take k).map (iJ keep)).length=k):=hlk;clear hlk
     go_upto_region 18 with(first
      |(at_builtin;refine cY _ rfl (.tmp 60) (.tmp 62) 29 rfl (S+4) 54 i0 (.agg #[.int .i64 0,.slice none 0 0,.slice none 0 0,.string ByteArray.empty,.slice none 0 0,.int .i64 0]) 6 104 ahf hi0 hz0 hz1 hz2 rfl Ϛ (.slice VP k vp) k vs.flatten rfl P (some ⟨wr.heap.size,0,none⟩) 1 1 [.int .i64 f[k].st,.slice P1 f[k].ps.length e1,.slice P2 f[k].qs.length e2,.string f[k].nt,u,.int .i64 (f[k].wl.countP λx=>!keep x:Nat)] rfl rfl (.inr ⟨_,rfl,hnew.out⟩) hone.out (by unfold maxLen;omega) Ω hS6 ?_;intro v' w' h2 g2 _
        obtain⟨V1,v1,rfl⟩:=bZ h2;have hbP:=C.ms.boxP g2;have t1:=(aj hbP 1 rfl).1;have y1:=(aj hbP 1 rfl).2)
      |go_in)
     have hM7:=C.done g2 (pv' :=.slice V1 (k+1) v1) (by rw[hlkA.out];exact h2);clear C l htR hS6 hnew hone h2 g2 hbP t1 y1 P
     go_wp2
     go_roundw
     case rel=>
      have e:(f.take k).map (iJ keep)++[iJ keep f[k]]=(f.take (k+1)).map (iJ keep):=by rw[Z' hlt,H?];rfl
      rw[e]at hM7;exact⟨k+1,hlt,Ψ,_,_,_,hM7⟩
     case measure=>simp[Go.RowKit.intOf];omega
  ·obtain rfl:k=f.length:=Ω
   rw[S_]at hM;obtain⟨VP,vp,rfl⟩:=bZ hM.parts;have z1:=(aj hM.box 1 rfl).1;have hso:=hsort keep _ _ _ _ _ hM.parts hM.held;rw[e_]at hso
   go_upto_region 20 with(first
    |(go_at_call 39;refine hso.mono ?_;rintro e W9 ⟨rfl,hb9⟩)
    |go_in)
   have hM9:=hM.quiet (Qj hb9);clear hM z1 hso hb9;have k0:=(aj hM9.box 0 rfl).1;have k1:=(aj hM9.box 1 rfl).1;have o0:=(aj hM9.res 0 rfl).1;have o1:=(aj hM9.res 1 rfl).1;have f0:=(aj hM9.res 0 rfl).2;have f1:=(aj hM9.res 1 rfl).2;have hF:=hM9.fin;rw[e_]at hF;clear hM9
   go_wp2
   obtain⟨hF1,hF2,hF3,hF4,hF5⟩:=hF;refine bodyPost_ret (results_cell_row rfl _ _ w.heap.size _ _ _ _ rfl hF1 underlying31 rfl Φ) rfl ?_;rw[hallA.out];rw[hkeepA.out]at hF5;exact⟨_,_,ks,vs,rfl,hasc,hF2,hF3,hF4,hF5⟩
end Abs
