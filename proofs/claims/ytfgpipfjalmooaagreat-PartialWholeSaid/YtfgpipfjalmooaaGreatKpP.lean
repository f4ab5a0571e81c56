/- Parts. -/
import Derived.Shelf.Slices.CompactI
import Derived.Test.YtfgpipfjalmooaaGreatKpJ
import Derived.Deep.AppendSrc
import Derived.WalkSpells
import Derived.Deep.Cut
import Derived.Handy
open Option renaming some→ä,none→ö
open Go renaming World→ü,Value→ß,TypeId→æ
set_option linter.all false
namespace Go.Proofs
open Go.Shelf Tryz
def Tryz.compI_ren:Go.Shelf.Ren:=⟨λ|20=>37|n=>n,λ|22=>23|3=>3|4=>4|0=>0|n=>n,λ|n=>n⟩
def Tryz.compI:Go.Proofs.Lays2.n20 Tryz.prog Tryz.compI_ren:={
 mixed:=by kernel_rfl
 f20:=Tryz.func37.trans (congrArg ä (by kernel_rfl))
 t0:=Tryz.underlying0
 a0:=Tryz.isAgg0
 z0:=Tryz.sizeOf0
 v0:=Tryz.zeroValue0
 t3:=Tryz.underlying3
 a3:=Tryz.isAgg3
 z3:=Tryz.sizeOf3
 v3:=Tryz.zeroValue3
 t4:=Tryz.underlying4
 a4:=Tryz.isAgg4
 z4:=Tryz.sizeOf4
 v4:=Tryz.zeroValue4
 t22:=Tryz.underlying23
 a22:=Tryz.isAgg23
 z22:=Tryz.sizeOf23
 v22:=Tryz.zeroValue23
 i3:=by kernel_rfl }
end Go.Proofs
namespace Go.Proofs.YtfgpipfjalmooaaGreat
namespace Abs
open Go Go.Proofs Go.RowKit Go.Maps Go.Shelf Tryz
def fP (w:ü)(B:Nat)(v:ß)(n:Nat)(f:List ß):Prop :=
 ∃A c,v = .slice A n c∧(A=ö→n=0)∧(0<n→∃b o,A=ä ⟨b,o,ö⟩∧b<B∧∀j u,f[j]? = ä u→w.cell? ⟨b,o+j,ö⟩=ä u)
variable{v:ß}{xs:List ß}
def fP.keep {w w':ü}{B n:Nat}(h:fP w B v n xs)(C:Below B w w'):fP w' B v n xs:=by obtain⟨A,c,e,P,J⟩:=h;refine⟨A,c,e,P,λg=>?_⟩;obtain⟨b,o,R,f,r⟩:=J g;exact⟨b,o,R,f,λj u l=>(C.cell (p:=⟨b,o+j,ö⟩) f).trans (r j u l)⟩
def fP.mono {w:ü}{B f n:Nat}(h:fP w B v n xs)(J:B≤f):fP w f v n xs:=by obtain⟨A,c,e,p,l⟩:=h;refine⟨A,c,e,p,λg=>?_⟩;obtain⟨b,o,r,C,j⟩:=l g;exact⟨b,o,r,Ω,j⟩
def dc {P:Program}(w:ü){R:Array Oper}{rest:List Oper}{o:Oper}{a:Act}{Q:Exit→Act→ü→Prop}(hgd:o.guard=ö)(s x:Operand)(t:æ)
  (ho:o.op = .call { callee :=.builtin .append,args :=#[s,x],argTypes :=#[t,t] }) (g:Nat) (e:æ) (i:TypeInfo) (z:ß) (size bytes:Nat) (ht:P.underlying t=ä (.slice e)) (hi:P.info? e=ä i) (hz:i.zero=ä z)
  (p:i.size=size) (hby:i.bytes=bytes) (U:z.cells.size=size) (hsz:0<size) (v:ß) (n:Nat) (xs:List ß) (hs:a.eval s=v) (T:w.ownsRow g e size v n xs)
  (A:Option Addr) (m c:Nat) (f:List ß) (hx:a.eval x = .slice A m c) (hl:f.length=m*size) (hA:m=0∨∃ad,A=ä ad∧∀j u,f[j]? = ä u→w.cell? (ad.add j)=ä u) (h1:∀u∈f,u.oneCell'=true)
  (h63:n+m≤maxLen) (l:(n+m)*bytes≤140737488355328) (r:g≤w.heap.size)
  (h:∀C J,J.ownsRow g e size C (n+m) (xs++f)→w.grownBy J v.ownBlock→(C.ownBlock=v.ownBlock∨C.ownBlock=ä w.heap.size)→wpList P R Q rest (a.put o.dst C) J):wpList P R Q (o::rest) a w :=
 akS hgd λ_ hK=>by obtain⟨C,J,hr,h2,h3,h4,_,_⟩:=cg (P:=P) (B:={ b:=g }) w t o.type e i z size bytes ht hi hz p hby U hsz v n xs T A m c f hl hA h1 h63 l r;unfold Oper.wp execOp;simp[ho,resolve,invoke,builtin,π,n_,hs,hx,hr];exact hK _ _ (h C J h2 h3 h4)
def gp (x:WK):List Value:=[.int .i64 x.id,.int .i64 x.fd,.int .i64 x.nn,.bool x.fl,.string x.tx,.int .i64 x.rf]
def flW (l:List WK):List Value:=(l.map gp).flatten
def afh (l:List WK)(x:WK):flW (l++[x])=flW l++gp x:=by simp[flW]
def U8 (l:List WK):(flW l).length=l.length*6:=by
 induction l with
 |nil=>rfl
 |cons x l f=>simp[flW,gp]at f⊢;omega
def U7 (l:List WK):∀u∈flW l,u.oneCell'=true:=by intro u f;obtain⟨c,g,f⟩:=akP.1 f;obtain⟨x,_,rfl⟩:=a_.1 g;simp[gp]at f;obtain rfl|rfl|rfl|rfl|rfl|rfl:=f <;> rfl
def XV (l:List Int):∀u∈intsI l,u.oneCell'=true:=by simp[intsI,Value.oneCell']
def I6 (l:List Int):(intsI l).length=l.length*1:=by simp[intsI]
def agK:(prog.info? 44).map (λi=>(i.zero,i.size,i.bytes))=ä (ä (.agg #[.int .i64 0,.int .i64 0,.int .i64 0,.bool false,.string ByteArray.empty,.int .i64 0]),6,56):=Φ
def tc:prog.underlying 23=ä (.slice 3):=Φ
def lR:prog.underlying 36=ä (.slice 44):=Φ
set_option maxHeartbeats 1000000 in
def kM (l:List Int)(h:l.length≤1048576)(w:ü)(v:ß)(hv:fP w w.heap.size v l.length (intsI l)):Calls prog 35 #[v] w λe r=>∃T,e = .returned T∧r.ownsRow w.heap.size 3 1 T l.length (intsI l)∧w.grownBy r none:=by
 obtain⟨A,c,rfl,h0,h1⟩:=hv;obtain⟨i0,hi0,hz0,hz1,hz2⟩:=info_parts abn;have qn:∀(w:ü) (a:Option Addr) (n c U c':Nat),(binOp .eql 23 (.slice a n c) (.slice ö U c')).run prog w = .ok (.bool a.isNone) w:=λw a n c U c'=>Lib.run_eql_slice_nil w _ _ a n c U c' (tc);cases A with
 |none=>
  have hl:=h0 rfl;have J:∀r:ü,r.ownsRow w.heap.size 3 1 (.slice ö 0 0) l.length (intsI l):=λr=>⟨I6 l,.inl ⟨rfl,hl⟩⟩
  go_enter func35,ntmps35
  go_wp2
  go_ret
  refine⟨_,rfl, ?_,rfl,rfl,rfl,ε _,λ_ _ _=>rfl⟩;have:=J w;simpa[hl]using this
 |some ad=>
  have hc:l.length=0∨∃R,(ä ad:Option Addr)=ä R∧∀j u,(intsI l)[j]? = ä u→(w.alloc (.cells #[] 3)).cell? (R.add j)=ä u:=by
   obtain h|h:=Nat.eq_zero_or_pos l.length
   ·exact .inl h
   ·obtain⟨b,o,e,hlt,g⟩:=h1 h;cases e;refine .inr ⟨_,rfl,λj u hj=>?_⟩;rw[Addr.add_mid];exact((Below.refl _ w).alloc (ε _) _ |>.cell (p:=⟨b,o+j,ö⟩) hlt).trans (g j u hj)
  have f:(w.alloc (.cells #[] 3)).ownsRow w.heap.size 3 1 (.slice (ä ⟨w.heap.size,0,ö⟩) 0 0) 0 []:=World.ownsRow_made _ #[] 0 (ε _) (Y' _) rfl
  go_enter func35,ntmps35
  go_wp2_with (first
   |(at_builtin;refine dc _ rfl (.tmp 5) (.tmp 6) 23 rfl w.heap.size 3 i0 (.int .i64 0) 1 8 (tc) hi0 hz0 hz1 hz2 rfl Ϛ (.slice (ä ⟨w.heap.size,0,ö⟩) 0 0) 0 [] rfl f (ä ad) l.length _ (intsI l) rfl (I6 l) hc (XV l) (by unfold maxLen;omega) Ω Ψ ?_;intro T r h2 P _)
   |go_in)
  go_ret
  refine⟨T,rfl,by simpa using h2, ?_⟩;have C:=κ w (.cells #[] 3) ö;exact⟨P.os.trans C.os,P.tape.trans C.tape,P.output.trans C.output,ξ C.size P.size,λk hk _=>(P.block k (d_ hk C.size) (λe=>by have e:ä k=ä w.heap.size:=e;injection e with e;omega)).trans (C.block k hk Ψ)⟩
set_option maxHeartbeats 1000000 in
def Mh (l:List WK)(h:l.length≤1048576)(w:ü)(v:ß)(hv:fP w w.heap.size v l.length (flW l)):Calls prog 68 #[v] w λe r=>∃T,e = .returned T∧r.ownsRow w.heap.size 44 6 T l.length (flW l)∧w.grownBy r none:=by
 obtain⟨A,c,rfl,h0,h1⟩:=hv;obtain⟨i0,hi0,hz0,hz1,hz2⟩:=info_parts agK;have qn:∀(w:ü) (a:Option Addr) (n c U c':Nat),(binOp .eql 36 (.slice a n c) (.slice ö U c')).run prog w = .ok (.bool a.isNone) w:=λw a n c U c'=>Lib.run_eql_slice_nil w _ _ a n c U c' (lR);cases A with
 |none=>
  have hl:=h0 rfl;have J:∀r:ü,r.ownsRow w.heap.size 44 6 (.slice ö 0 0) l.length (flW l):=λr=>⟨U8 l,.inl ⟨rfl,hl⟩⟩
  go_enter func68,ntmps68
  go_wp2
  go_ret
  refine⟨_,rfl, ?_,rfl,rfl,rfl,ε _,λ_ _ _=>rfl⟩;have:=J w;simpa[hl]using this
 |some ad=>
  have hc:l.length=0∨∃R,(ä ad:Option Addr)=ä R∧∀j u,(flW l)[j]? = ä u→(w.alloc (.cells #[] 44)).cell? (R.add j)=ä u:=by
   obtain h|h:=Nat.eq_zero_or_pos l.length
   ·exact .inl h
   ·obtain⟨b,o,e,hlt,g⟩:=h1 h;cases e;refine .inr ⟨_,rfl,λj u hj=>?_⟩;rw[Addr.add_mid];exact((Below.refl _ w).alloc (ε _) _ |>.cell (p:=⟨b,o+j,ö⟩) hlt).trans (g j u hj)
  have f:(w.alloc (.cells #[] 44)).ownsRow w.heap.size 44 6 (.slice (ä ⟨w.heap.size,0,ö⟩) 0 0) 0 []:=World.ownsRow_made _ #[] 0 (ε _) (Y' _) rfl
  go_enter func68,ntmps68
  go_wp2_with (first
   |(at_builtin;refine dc _ rfl (.tmp 5) (.tmp 6) 36 rfl w.heap.size 44 i0 (.agg #[.int .i64 0,.int .i64 0,.int .i64 0,.bool false,.string ByteArray.empty,.int .i64 0]) 6 56 (lR) hi0 hz0 hz1 hz2 rfl Ϛ (.slice (ä ⟨w.heap.size,0,ö⟩) 0 0) 0 [] rfl f (ä ad) l.length _ (flW l) rfl (U8 l) hc (U7 l) (by unfold maxLen;omega) Ω Ψ ?_;intro T r h2 P _)
   |go_in)
  go_ret
  refine⟨T,rfl,by simpa using h2, ?_⟩;have C:=κ w (.cells #[] 44) ö;exact⟨P.os.trans C.os,P.tape.trans C.tape,P.output.trans C.output,ξ C.size P.size,λk hk _=>(P.block k (d_ hk C.size) (λe=>by have e:ä k=ä w.heap.size:=e;injection e with e;omega)).trans (C.block k hk Ψ)⟩
end Abs
namespace Abs
open Go Go.Proofs Go.RowKit Go.Maps Go.Shelf Tryz
variable{w w' :ü}{b base size r:Nat}{cs:Array ß}{t:æ}{v:ß}{xs:List ß}
def bV (h:w.heap[b]? = ä (.cells cs t (0,0)))(i:Nat)(v:ß) :
  (w.setCell ⟨b,i,ö⟩ v).heap[b]? = ä (.cells (cs.setIfInBounds i v) t (0,0))∧w.grownBy (w.setCell ⟨b,i,ö⟩ v) (ä b):=by
 have f:=(δ.1 h).1;refine⟨?_,rfl,rfl,rfl,by simp[World.setCell],λk _ g=>?_⟩
 ·unfold World.setCell;rw[b?,h];simp
 ·unfold World.setCell;rw[b?,ω (λe=>g (by have e:b=k:=e;rw[e]))]
def ac (h:w.heap[b]? = ä (.cells cs t (0,0)))(i:Nat)(f:cs[i]? = ä v):w.cell? ⟨b,i,ö⟩=ä v∧w.frozen? ⟨b,i,ö⟩=false:=by
 refine⟨?_, ?_⟩
 ·unfold World.cell?;rw[h];exact f
 ·unfold World.frozen?;rw[h];simp
def aC {e n:Nat}{o:Obj}(h:w.ownsRow base e size v n xs)(l:w.grownBy w' (ä r))(j:w.heap[r]? = ä o)(f:∀g,o ≠ .cells g e (0,0)):w'.ownsRow base e size v n xs:=by
 refine h.kept l ?_;obtain e|e:=ownsRow_ne_a h j f
 ·exact .inl e
 ·exact .inr e
def aO {e n:Nat}(h:w.ownsRow base e size v n xs):∃A c,v = .slice A n c:=by
 rcases h.2 with⟨rfl,rfl⟩|⟨g,cap,f,rfl,_⟩
 ·exact⟨_,_,rfl⟩
 ·exact⟨_,_,rfl⟩
def bn {e n:Nat}(h:w.ownsRow base e size v n xs)(f:w.grownBy w' ö):w'.ownsRow base e size v n xs :=
 h.kept f (by cases e:v.ownBlock with
  |none=>exact .inl rfl
  |some g=>exact .inr Ψ)
def ct {f e n:Nat}(h:w.ownsRow f e size v n xs)(r:base≤f):w.ownsRow base e size v n xs:=by
 refine⟨h.1, ?_⟩;obtain h|⟨g,cap,j,p,C,l⟩:=h.2
 ·exact .inl h
 ·exact .inr ⟨g,cap,j,p,Ω,l⟩
def qb {W j :ü}(h:w.grownBy W ö)(f:W.grownBy j (ä r))(l:w.heap.size≤r):w.grownBy j none :=
 ⟨f.os.trans h.os,f.tape.trans h.tape,f.output.trans h.output,ξ h.size f.size,λk g _=>(f.block k (d_ g h.size) (λe=>by injection e with e;omega)).trans (h.block k g Ψ)⟩
def cX {f:ü}(h:w.grownBy w' (ä r))(g:w'.grownBy f (ä r)):w.grownBy f (ä r) :=
 ⟨g.os.trans h.os,g.tape.trans h.tape,g.output.trans h.output,ξ h.size g.size,λk j e=>(g.block k (d_ j h.size) e).trans (h.block k j e)⟩
def ZV {a0 a1 a2 U T v0 v1 v2 v3 v4:ß}(h:w.heap[b]? = ä (.cells #[a0,a1,a2,U,T] t (0,0))) :
  (((((w.setCell ⟨b,0,ö⟩ v0).setCell ⟨b,1,ö⟩ v1).setCell ⟨b,2,ö⟩ v2).setCell ⟨b,3,ö⟩ v3).setCell ⟨b,4,ö⟩ v4).heap[b]? = ä (.cells #[v0,v1,v2,v3,v4] t (0,0)) ∧
  w.grownBy (((((w.setCell ⟨b,0,ö⟩ v0).setCell ⟨b,1,ö⟩ v1).setCell ⟨b,2,ö⟩ v2).setCell ⟨b,3,ö⟩ v3).setCell ⟨b,4,ö⟩ v4) (ä b):=by
 obtain⟨p,R⟩:=bV h 0 v0;obtain⟨l,P⟩:=bV p 1 v1;obtain⟨j,J⟩:=bV l 2 v2;obtain⟨g,C⟩:=bV j 3 v3;obtain⟨f,r⟩:=bV g 4 v4;exact⟨by simpa using f,cX (cX (cX (cX R P) J) C) r⟩
set_option maxRecDepth 100000 in
set_option maxHeartbeats 1600000 in
def kL (st:Int)(pv qv wv:ß)(g:ByteArray)(ps p:List Int)(l:List WK)(w:ü)(h1:ps.length≤1048576)(h2:p.length≤1048576)(h3:l.length≤1048576)(hp:fP w w.heap.size pv ps.length (intsI ps))(hq:fP w w.heap.size qv p.length (intsI p))(hw:fP w w.heap.size wv l.length (flW l)) :
  Calls prog 38 #[.agg #[.int .i64 st,pv,qv,.string g,wv]] w λe w'=>∃pv' qv' wv',e = .returned (.agg #[.int .i64 st,pv',qv',.string g,wv'])∧w.grownBy w' ö ∧
   w'.ownsRow w.heap.size 3 1 pv' ps.length (intsI ps)∧w'.ownsRow w.heap.size 3 1 qv' p.length (intsI p)∧w'.ownsRow w.heap.size 44 6 wv' l.length (flW l):=by
 obtain⟨pA,pc,rfl,hpx⟩:=hp;have hp:fP w w.heap.size (.slice pA ps.length pc) ps.length (intsI ps):=⟨pA,pc,rfl,hpx⟩;obtain⟨qA,qc,rfl,hqx⟩:=hq;have hq:fP w w.heap.size (.slice qA p.length qc) p.length (intsI p):=⟨qA,qc,rfl,hqx⟩;obtain⟨wA,wc,rfl,hwx⟩:=hw;have hw:fP w w.heap.size (.slice wA l.length wc) l.length (flW l):=⟨wA,wc,rfl,hwx⟩;clear hpx hqx hwx
 go_enter func38,ntmps38
 go_upto_region 1 with fail
 have hA1:=(Below.heap_alloc (w.alloc (.cells #[.int .i64 st,.slice pA ps.length pc,.slice qA p.length qc,.string g,.slice wA l.length wc] 38)) (.cells #[.int .i64 0,.slice ö 0 0,.slice ö 0 0,.string { data :=#[] },.slice ö 0 0] 38) w.heap.size Ψ).trans (World.alloc_heap_new w (.cells #[.int .i64 st,.slice pA ps.length pc,.slice qA p.length qc,.string g,.slice wA l.length wc] 38));have hA2:=World.alloc_heap_new (w.alloc (.cells #[.int .i64 st,.slice pA ps.length pc,.slice qA p.length qc,.string g,.slice wA l.length wc] 38)) (.cells #[.int .i64 0,.slice ö 0 0,.slice ö 0 0,.string { data :=#[] },.slice ö 0 0] 38);rw[X']at hA2;have hgA:w.grownBy ((w.alloc (.cells #[.int .i64 st,.slice pA ps.length pc,.slice qA p.length qc,.string g,.slice wA l.length wc] 38)).alloc (.cells #[.int .i64 0,.slice ö 0 0,.slice ö 0 0,.string { data :=#[] },.slice ö 0 0] 38)) none:=(κ w (.cells #[.int .i64 st,.slice pA ps.length pc,.slice qA p.length qc,.string g,.slice wA l.length wc] 38) ö).trans (κ (w.alloc (.cells #[.int .i64 st,.slice pA ps.length pc,.slice qA p.length qc,.string g,.slice wA l.length wc] 38)) (.cells #[.int .i64 0,.slice ö 0 0,.slice ö 0 0,.string { data :=#[] },.slice ö 0 0] 38) ö);have hsA:((w.alloc (.cells #[.int .i64 st,.slice pA ps.length pc,.slice qA p.length qc,.string g,.slice wA l.length wc] 38)).alloc (.cells #[.int .i64 0,.slice ö 0 0,.slice ö 0 0,.string { data :=#[] },.slice ö 0 0] 38)).heap.size=w.heap.size+2:=by simp
 generalize (w.alloc (.cells #[.int .i64 st,.slice pA ps.length pc,.slice qA p.length qc,.string g,.slice wA l.length wc] 38)).alloc (.cells #[.int .i64 0,.slice ö 0 0,.slice ö 0 0,.string { data :=#[] },.slice ö 0 0] 38)=Wa at hA1 hA2 hgA hsA⊢;have j:∀W,w.grownBy W ö→Below w.heap.size w W:=λW hg=>(Below.refl _ w).grown hg (ε _) λk e=>by cases e
 have hca:=(ac hA1 1 rfl).1
 go_upto_region 2 with(first
  |(go_at_call 35;refine(kM ps h1 Wa _ ((hp.keep (j Wa hgA)).mono Ω)).mono ?_;rintro e w1 ⟨v1,rfl,hr1,hg1⟩
    obtain⟨B1,c1,rfl⟩:=aO hr1;have hB1:=(hg1.block _ Ω Ψ).trans hA1;have hcb:=(ac hB1 1 rfl).1;have hfb:=(ac hB1 1 rfl).2)
  |go_in)
 have hS1:=bV hB1 1 (.slice B1 ps.length c1);simp at hS1;have hA2b:=(hS1.2.block _ (by have:=hg1.size;omega) Ψ).trans ((hg1.block _ Ω Ψ).trans hA2);have hr1b:=aC hr1 hS1.2 hB1 (λR e=>by cases e);have hsz1:=ξ hg1.size hS1.2.size;have C:w.grownBy (w1.setCell ⟨w.heap.size,1,ö⟩ (.slice B1 ps.length c1)) none:=qb (hgA.trans hg1) hS1.2 (ε _);obtain⟨hC1,_⟩:=hS1;generalize w1.setCell ⟨w.heap.size,1,ö⟩ (.slice B1 ps.length c1)=Wb at hC1 hA2b hr1b C hsz1⊢;clear hA1 hA2 hgA hca hcb hfb hB1 hr1 hg1;have hca:=(ac hC1 2 rfl).1
 go_upto_region 3 with(first
  |(go_at_call 35;refine(kM p h2 Wb _ ((hq.keep (j Wb C)).mono C.size)).mono ?_;rintro e w2 ⟨v2,rfl,hr2,T⟩
    obtain⟨B2,c2,rfl⟩:=aO hr2;have hB2:=(T.block _ Ω Ψ).trans hC1;have hcb:=(ac hB2 2 rfl).1;have hfb:=(ac hB2 2 rfl).2)
  |go_in)
 have U:=bV hB2 2 (.slice B2 p.length c2);simp at U;have hA2c:=(U.2.block _ (by have:=T.size;omega) Ψ).trans ((T.block _ Ω Ψ).trans hA2b);have hr1c:=aC (bn hr1b T) U.2 hB2 (λR e=>by cases e);have hr2b:=aC hr2 U.2 hB2 (λR e=>by cases e);have hsz2:=ξ T.size U.2.size;have r:w.grownBy (w2.setCell ⟨w.heap.size,2,ö⟩ (.slice B2 p.length c2)) none:=qb (C.trans T) U.2 (ε _);obtain⟨hC2,_⟩:=U;generalize w2.setCell ⟨w.heap.size,2,ö⟩ (.slice B2 p.length c2)=Wc at hC2 hA2c hr1c hr2b r hsz2⊢;clear hC1 hA2b hr1b hca hcb hfb hB2 hr2 T;have hca:=(ac hC2 4 rfl).1
 go_upto_region 4 with(first
  |(go_at_call 68;refine(Mh l h3 Wc _ ((hw.keep (j Wc r)).mono r.size)).mono ?_;rintro e w3 ⟨v3,rfl,hr3,J⟩
    obtain⟨B3,c3,rfl⟩:=aO hr3;have hB3:=(J.block _ Ω Ψ).trans hC2;have hcb:=(ac hB3 4 rfl).1;have hfb:=(ac hB3 4 rfl).2)
  |go_in)
 have P:=bV hB3 4 (.slice B3 l.length c3);simp at P;have f:=(P.2.block _ (by have:=J.size;omega) Ψ).trans ((J.block _ Ω Ψ).trans hA2c);have hr1d:=aC (bn hr1c J) P.2 hB3 (λR e=>by cases e);have hr2d:=aC (bn hr2b J) P.2 hB3 (λR e=>by cases e);have hr3d:=aC hr3 P.2 hB3 (λR e=>by cases e);have hgw3:w.grownBy (w3.setCell ⟨w.heap.size,4,ö⟩ (.slice B3 l.length c3)) none:=qb (r.trans J) P.2 (ε _);have hsz3:=ξ J.size P.2.size;obtain⟨hC3,_⟩:=P;generalize w3.setCell ⟨w.heap.size,4,ö⟩ (.slice B3 l.length c3)=Wd at hC3 f hr1d hr2d hr3d hgw3 hsz3⊢;clear hC2 hA2c hr1c hr2b hca hcb hfb hB3 hr3 J;have k0:=(ac hC3 0 rfl).1;have k1:=(ac hC3 1 rfl).1;have k2:=(ac hC3 2 rfl).1;have k3:=(ac hC3 3 rfl).1;have k4:=(ac hC3 4 rfl).1;have f0:=(ac f 0 rfl).2;have f1:=(ac f 1 rfl).2;have f2:=(ac f 2 rfl).2;have f3:=(ac f 3 rfl).2;have f4:=(ac f 4 rfl).2;have o0:=(ac f 0 rfl).1;have o1:=(ac f 1 rfl).1;have o2:=(ac f 2 rfl).1;have o3:=(ac f 3 rfl).1;have o4:=(ac f 4 rfl).1
 go_wp2
 obtain⟨hE,hgE⟩:=ZV (v0 :=.int .i64 st) (v1 :=.slice B1 ps.length c1) (v2 :=.slice B2 p.length c2) (v3 :=.string g) (v4 :=.slice B3 l.length c3) f;have e1:=aC hr1d hgE f (λR e=>by cases e);have e2:=aC hr2d hgE f (λR e=>by cases e);have e3:=aC hr3d hgE f (λR e=>by cases e);refine alc (results_cell_row rfl _ _ (w.heap.size+1) _ _ _ _ rfl hE underlying38 rfl Φ) rfl ?_;exact⟨_,_,_,rfl,qb hgw3 hgE Ω,ct e1 Ω,ct e2 (by have:=C.size;omega),ct e3 (by have:=r.size;omega)⟩
end Abs
namespace Abs
open Go Go.Proofs Go.RowKit Go.Maps Go.Shelf Tryz
structure CF where
 st:Int
 ps:List Int
 qs:List Int
 nt:ByteArray
 wl:List WK
def MB (w:ü)(B b f:Nat)(c:CF):Prop :=
 ∃pv j g,w.cell? ⟨b,f,ö⟩=ä (.int .i64 c.st)∧w.cell? ⟨b,f+1,ö⟩=ä pv∧w.cell? ⟨b,f+2,ö⟩=ä j∧w.cell? ⟨b,f+3,ö⟩=ä (.string c.nt)∧w.cell? ⟨b,f+4,ö⟩=ä g ∧
  fP w B pv c.ps.length (intsI c.ps)∧fP w B j c.qs.length (intsI c.qs)∧fP w B g c.wl.length (flW c.wl)
def uC (w:ü)(B:Nat)(A:Option Addr)(g:List CF):Prop:=0<g.length→∃b f,A=ä ⟨b,f,ö⟩∧b<B∧∀k (h:k<g.length),MB w B b (f+k*5) g[k]
def MB.keep {w w':ü}{B b o:Nat}{c:CF}(h:MB w B b o c)(f:Below B w w')(T:b<B):MB w' B b o c:=by obtain⟨pv,j,g,C,q1,q2,r,l,R,P,J⟩:=h;have t:∀o v,w.cell? ⟨b,o,ö⟩=ä v→w'.cell? ⟨b,o,ö⟩=ä v:=λo v h=>(f.cell (p:=⟨b,o,ö⟩) T).trans h;exact⟨pv,j,g,t _ _ C,t _ _ q1,t _ _ q2,t _ _ r,t _ _ l,R.keep f,P.keep f,J.keep f⟩
def MB.mono {w:ü}{B g b o:Nat}{c:CF}(h:MB w B b o c)(f:B≤g):MB w g b o c:=by obtain⟨pv,l,j,C,q1,q2,r,p,R,P,J⟩:=h;exact⟨pv,l,j,C,q1,q2,r,p,R.mono f,P.mono f,J.mono f⟩
def uC.keep {w w':ü}{B:Nat}{A:Option Addr}{j:List CF}(h:uC w B A j)(r:Below B w w'):uC w' B A j:=λC=>by obtain⟨b,f,e,g,p⟩:=h C;exact⟨b,f,e,g,λk l=>(p k l).keep r g⟩
def uC.mono {w:ü}{B j:Nat}{A:Option Addr}{g:List CF}(h:uC w B A g)(r:B≤j):uC w j A g:=λC=>by obtain⟨b,f,e,J,p⟩:=h C;exact⟨b,f,e,Ω,λk l=>(p k l).mono r⟩
def abH:∀(l:List WK) (j:Nat) (h:j<l.length) (i:Nat),i<6→(flW l)[j*6+i]? = (gp l[j])[i]?
 |x::l,0,_,i,hi=>by simp[flW];exact I' hi
 |x::l,j+1,h,i,hi=>by have:=abH l j (by simpa using h) i hi;simp[flW]at this⊢;rw[←this,h_ (by simp[gp];omega)];congr 1;simp[gp];omega
variable{w:ü}{A:Option Addr}
def yh {B n c:Nat}{l:List WK}(h:fP w B (.slice A n c) l.length (flW l))(j:Nat)(J:j<l.length):∃p r,A=ä ⟨p,r,ö⟩∧p<B∧YU w p (r+j*6) l[j]:=by
 obtain⟨U,T,e,_,R⟩:=h;cases e;obtain⟨p,r,e,C,f⟩:=R Ω;have g:=λi (P:i<6)=>abH l j J i P;refine⟨p,r,e,C, ?_, ?_, ?_, ?_, ?_, ?_⟩
 ·exact f (j*6) _ (by rw[←Nat.add_zero (j*6),g 0 Ϛ];rfl)
 ·rw[A_];exact f (j*6+1) _ (by rw[g 1 Ϛ];rfl)
 ·rw[A_];exact f (j*6+2) _ (by rw[g 2 Ϛ];rfl)
 ·rw[A_];exact f (j*6+3) _ (by rw[g 3 Ϛ];rfl)
 ·rw[A_];exact f (j*6+4) _ (by rw[g 4 Ϛ];rfl)
 ·rw[A_];exact f (j*6+5) _ (by rw[g 5 Ϛ];rfl)
def MB.comm {B b o:Nat}{c:CF}(h:MB w B b o c):CO w B b o c.wl:=by obtain⟨pv,qv,wv,r,q1,q2,p,l,⟨A1,c1,rfl,_⟩,⟨A2,c2,rfl,_⟩,hs⟩:=h;obtain⟨A3,c3,rfl,_,T⟩:=id hs;refine⟨_,A1,_,c1,A2,_,c2,_,A3,c3,r,q1,q2,p,l,λh0=>?_⟩;obtain⟨R,J,e,f,_⟩:=T h0;refine⟨R,J,e,f,λj U=>?_⟩;obtain⟨P,C,g,_,h⟩:=yh hs j U;rw[e]at g;cases g;exact h
def uC.comms {B:Nat}{l:List CF}(h:uC w B A l):dO w B A (l.map (·.wl)):=λj=>by rw[G']at j;obtain⟨b,f,e,p,r⟩:=h j;refine⟨b,f,e,p,λk g=>?_⟩;rw[G']at g;rw[alr];exact(r k g).comm
end Abs
namespace Abs
open Go Go.Proofs Go.RowKit Go.Maps Go.Shelf Tryz
def kn (l:List Int):List Int:=Lib.compact (l.mergeSort λx y=>decide (x≤y))
variable{wr:ü}{base:Nat}{v:ß}{f:List Int}
def Wx (h:wr.ownsRow base 3 1 v f.length (intsI f))(hl:f.length≤1048576) :
  Calls prog 36 #[v] wr λe j=>e = .returned (.tuple #[])∧j.ownsRow base 3 1 v f.length (intsI (f.mergeSort λx y=>decide (x≤y)))∧wr.grownBy j v.ownBlock:=by
 rcases h.2 with⟨rfl,T⟩|⟨g,cap,U,rfl,P,l,C,J,r,p⟩
 ·refine(Wy ö 0 wr).mono ?_;rintro e j ⟨rfl,rfl⟩;obtain rfl:f=[]:=Q' T;exact⟨rfl,by simpa using h,⟨rfl,rfl,rfl,ε _,λ_ _ _=>rfl⟩⟩
 ·have R:Sort.Holds (Value.int .i64) wr g 0 f.toArray:=holds_of_blockI l (by simpa[intsI]using p);refine(Rj g cap f wr R (δ.1 l).1 Ω).mono ?_;rintro e j ⟨rfl,n,os,rfl⟩;exact⟨rfl,ownsRow_sortedI (abs f) P l C J r,grownBy_sortedI _⟩
def Tz (f:List Int):(Lib.compact f).length≤f.length:=by unfold Lib.compact Lib.compactUpTo;rw[G'];exact ξ (H_ _ _) Ψ
def Ma (h:wr.ownsRow base 3 1 v f.length (intsI f))(hl:f.length≤1048576) :
  Calls prog 37 #[v] wr λe p=>∃J,e = .returned J∧p.ownsRow base 3 1 J (Lib.compact f).length (intsI (Lib.compact f))∧wr.grownBy p v.ownBlock∧J.ownBlock=v.ownBlock∧∃r,p.ownsRow base 3 1 v r.length (intsI r):=by
 rcases h.2 with⟨rfl,h0⟩|⟨g,cap,cur,rfl,hb,hc,U,hm,hs,ht⟩
 ·obtain rfl:f=[]:=Q' h0;refine(Any.slices_Compact_int_empty compI ö 0 wr).mono ?_;rintro e p ⟨rfl,rfl⟩;exact⟨_,rfl,h,⟨rfl,rfl,rfl,ε _,λ_ _ _=>rfl⟩,rfl,[],h⟩
 ·have hH:Sort.Holds (Value.int .i64) wr g 0 f.toArray:=holds_of_blockI hc (by simpa[intsI]using ht);refine(Any.slices_Compact_int compI g 0 cap f wr hH Ω U).mono ?_;rintro e p ⟨rfl,q,rfl⟩;have hle:=Tz f;have j:=ownsRow_sortedI (os :=#[]) (n:=q) (ts:=Lib.compact f++List.replicate (f.length-(Lib.compact f).length) 0) (ss:=f) Ξ hb hc U hm hs;have C:(Lib.compact f++List.replicate (f.length-(Lib.compact f).length) 0).length=f.length:=by simp;omega
  refine⟨_,rfl, ?_,grownBy_sortedI (os :=#[]) (n:=q) _,rfl,_,(by rw[C];exact j)⟩;rcases j.2 with⟨e,_⟩|⟨g',cap',l,e,hb',T,hn',hm',R,P⟩
  ·cases e
  ·cases e;refine⟨by simp[intsI],.inr ⟨g,cap,l,rfl,hb,T,Ω,hm,R, ?_⟩⟩;have:(l.toList.take (f.length*1)).take (Lib.compact f).length=intsI (Lib.compact f):=by
    rw[P,T_,alz Ψ];rfl
   rwa[akE,X? Ω,←Nat.mul_one (Lib.compact f).length]at this
end Abs
namespace Abs
open Go Go.Proofs Go.RowKit Go.Maps Go.Shelf Tryz
structure PF where
 c:CF
 left:Nat
def cJ (W:ü)(B T:Nat)(x:PF)(l:List ß):Prop :=
 ∃pv j f,l=[.int .i64 x.c.st,pv,j,.string x.c.nt,f,.int .i64 x.left]∧W.ownsRow B 3 1 pv x.c.ps.length (intsI x.c.ps)∧W.ownsRow B 3 1 j x.c.qs.length (intsI x.c.qs)∧W.ownsRow B 44 6 f x.c.wl.length (flW x.c.wl) ∧
  ∀g,(pv.ownBlock=ä g∨j.ownBlock=ä g∨f.ownBlock=ä g)→g<T
variable{W j w:ü}{T p n:Nat}{x:PF}{vs vs' :List (List ß)}{K N M:Int→Bool}{f pv:ß}{wl C :List Int}{l l' :List PF}
def cJ.sb {B:Nat}{vs:List ß}{row:Option Nat}(h:cJ W B T x vs)(p:W.grownBy j row)(P:∀r,row=ä r→T≤r):cJ j B T x vs:=by
 obtain⟨pv,C,f,rfl,h1,U,R,l⟩:=h;have k:∀v:ß,(∀g,v.ownBlock=ä g→g<T)→v.ownBlock=ö∨v.ownBlock≠row:=λv J=>by
  cases e:v.ownBlock with
  |none=>exact .inl rfl
  |some g=>
   have:=J g e;exact .inr λe'=>by have:=P g e'.symm;omega
 exact⟨pv,C,f,rfl,h1.kept p (k pv λg e=>l g (.inl e)),U.kept p (k C λg e=>l g (.inr (.inl e))),R.kept p (k f λg e=>l g (.inr (.inr e))),l⟩
def cJ.stays {B:Nat}{vs:List ß}{r:Nat}{o:Obj}(h:cJ W B T x vs)(p:W.grownBy j (ä r))(l:W.heap[r]? = ä o)(J:∀g,o ≠ .cells g 3 (0,0))(C:∀g,o ≠ .cells g 44 (0,0)):cJ j B T x vs:=by obtain⟨pv,P,f,rfl,k1,k2,U,R⟩:=h;exact⟨pv,P,f,rfl,aC k1 p l J,aC k2 p l J,aC U p l C,R⟩
def cJ.mono {B T' :Nat}{vs:List ß}(h:cJ W B T x vs)(p:T≤T'):cJ W B T' x vs:=by obtain⟨pv,j,f,rfl,P,J,C,r⟩:=h;exact⟨pv,j,f,rfl,P,J,C,λg l=>d_ (r g l) p⟩
def bK (W:ü)(B T:Nat):List PF→List (List ß)→Prop
 |[],[]=>True
 |x::l,v::vs=>cJ W B T x v∧bK W B T l vs
 |_,_=>False
def bK.all {W j:ü}{B p T g:Nat}(h:∀x v,cJ W B T x v→cJ j p g x v):∀{l:List PF} {vs:List (List ß)},bK W B T l vs→bK j p g l vs
 |[],[],_=>trivial
 |_::_,_::_,f=>⟨h _ _ f.1,bK.all h f.2⟩
 |[],_::_,f=>f.elim
 |_::_,[],f=>f.elim
def bK.push {W:ü}{B T:Nat}{x:PF}{v:List ß}(g:cJ W B T x v):∀{l:List PF} {vs:List (List ß)},bK W B T l vs→bK W B T (l++[x]) (vs++[v])
 |[],[],_=>⟨g,apa⟩
 |_::_,_::_,f=>⟨f.1,bK.push g f.2⟩
 |[],_::_,f=>f.elim
 |_::_,[],f=>f.elim
structure MkS (w W:ü)(S p T n:Nat)(K N M:Int→Bool)(f pv:ß)(wl:List Int)(l:List PF)(vs:List (List ß)):Prop where
 below:Below w.heap.size w W
 cz:W.heap[w.heap.size]? = ä (.cells #[.slice ö 0 0,.slice ö 0 0] 31 (0,0))
 env:KEnv W (w.heap.size+1) (w.heap.size+1+1) S (S+1) (S+1+1) (S+1+1+1) n K N M
 lo:w.heap.size+3≤S
 hi:S+4≤p
 top:p<T∧T≤W.heap.size
 box:W.heap[p]? = ä (.cells #[f,pv] 31 (0,0))
 want:W.ownsRow (S+4) 3 1 f wl.length (intsI wl)
 parts:W.ownsRow (S+4) 54 6 pv l.length vs.flatten
 wlt:∀g,f.ownBlock=ä g→g<T
 plt:∀g,pv.ownBlock=ä g→g<T
 held:bK W (S+4) T l vs
def MkS.sb {w W j:ü}{S p T n:Nat}{K N M:Int→Bool}{f pv:ß}{wl:List Int}{l:List PF}{vs:List (List ß)}{row:Option Nat}(h:MkS w W S p T n K N M f pv wl l vs)(C:W.grownBy j row)(J:∀r,row=ä r→T≤r):MkS w j S p T n K N M f pv wl l vs:=by
 have lo:=h.lo;have hi:=h.hi;have P:=h.top;have lt:∀{k:Nat} {o:Obj},W.heap[k]? = ä o→k<W.heap.size:=λh=>(δ.1 h).1;have ne:∀k,k<T→ä k≠row:=λk hk e=>by have:=J k e.symm;omega
 have k:∀v:ß,(∀g,v.ownBlock=ä g→g<T)→v.ownBlock=ö∨v.ownBlock≠row:=λv U=>by
  cases e:v.ownBlock with
  |none=>exact .inl rfl
  |some g=>exact .inr (ne g (U g e))
 exact⟨h.below.grown C h.below.size λr e=>by have:=J r e;omega,(C.block _ (lt h.cz) (ne _ Ω)).trans h.cz,h.env.kept C λr e=>by have:=J r e;omega,h.lo,h.hi,⟨h.top.1,ξ h.top.2 C.size⟩,(C.block _ (lt h.box) (ne _ h.top.1)).trans h.box,
  h.want.kept C (k f h.wlt),h.parts.kept C (k pv h.plt),h.wlt,h.plt,h.held.all λx v R=>R.sb C J⟩
def MkS.quiet {S:Nat}(h:MkS w W S p T n K N M f pv wl l vs)(g:W.grownBy j ö):MkS w j S p T n K N M f pv wl l vs:=h.sb g λr e=>by cases e
def MkS.mono {w W:ü}{S p T T' n:Nat}{K N M:Int→Bool}{f pv:ß}{wl:List Int}{l:List PF}{vs:List (List ß)}(h:MkS w W S p T n K N M f pv wl l vs)(j:T≤T')(C:T'≤W.heap.size):MkS w W S p T' n K N M f pv wl l vs :=
 ⟨h.below,h.cz,h.env,h.lo,h.hi,⟨d_ h.top.1 j,C⟩,h.box,h.want,h.parts,λg e=>d_ (h.wlt g e) j,λg e=>d_ (h.plt g e) j,h.held.all λx v r=>r.mono j⟩
def dI {f e size g:Nat}{v:ß}{p:List ß}(h:w.ownsRow f e size v n p)(l:v.ownBlock=ä g):f≤g∧∃j,w.heap[g]? = ä (.cells j e (0,0)):=by
 rcases h.2 with⟨rfl,_⟩|⟨J,cap,j,rfl,C,r,_⟩
 ·cases l
 ·injection l with l;obtain rfl:J=g:=l;exact⟨C,j,r⟩
def MkS.lb {S r:Nat}(h:MkS w W S p T n K N M f pv wl l vs)(U:W.grownBy j (ä r))(hr:S+4≤r){J P:ß}
  (R:j.heap[p]? = ä (.cells #[J,P] 31 (0,0))) (hw:j.ownsRow (S+4) 3 1 J C.length (intsI C)) (hp:j.ownsRow (S+4) 54 6 P l'.length vs'.flatten) (hwt:∀g,J.ownBlock=ä g→g<T) (hpt:∀g,P.ownBlock=ä g→g<T) (hh:bK j (S+4) T l' vs'):MkS w j S p T n K N M J P C l' vs':=by
 have lo:=h.lo;have lt:∀{k:Nat} {o:Obj},W.heap[k]? = ä o→k<W.heap.size:=λh=>(δ.1 h).1;exact⟨h.below.grown U h.below.size λk e=>by injection e with e;omega,(U.block _ (lt h.cz) λe=>by injection e with e;omega).trans h.cz,h.env.kept U λk e=>by injection e with e;omega,h.lo,h.hi,⟨h.top.1,ξ h.top.2 U.size⟩,R,hw,hp,hwt,hpt,hh⟩
def MkS.sorted {S:Nat}(h:MkS w W S p T n K N M f pv wl [] [])(l:W.grownBy j f.ownBlock)(P:j.ownsRow (S+4) 3 1 f C.length (intsI C)):MkS w j S p T n K N M f pv C [] []:=by
 cases e:f.ownBlock with
 |none =>rw[e]at l;have q:=h.quiet l;exact⟨q.below,q.cz,q.env,q.lo,q.hi,q.top,q.box,P,q.parts,q.wlt,q.plt,apa⟩
 |some g=>
  rw[e]at l;obtain⟨U,J,R⟩:=dI h.want e;have r:p≠g:=λe'=>by have:=h.box;rw[e',R]at this;cases this
  exact h.lb l U ((l.block _ (δ.1 h.box).1 λe=>r (by injection e)).trans h.box) P (aC h.parts l R λJ e=>by cases e) h.wlt h.plt trivial
def MkS.set {S:Nat}(h:MkS w W S p T n K N M f pv wl l vs){i:Nat}{v j r:ß}{P:Nat}(hT:T≤P)(hW:P≤W.heap.size)
  (hc:(#[f,pv]:Array ß).setIfInBounds i v = #[j,r]) (hw:W.ownsRow (S+4) 3 1 j C.length (intsI C)) (hp:W.ownsRow (S+4) 54 6 r l'.length vs'.flatten) (U:∀g,j.ownBlock=ä g→g<P) (hpt:∀g,r.ownBlock=ä g→g<P) (hh:bK W (S+4) P l' vs') :
  MkS w (W.setCell ⟨p,i,ö⟩ v) S p P n K N M j r C l' vs':=by
 obtain⟨h1,R⟩:=bV h.box i v;rw[hc]at h1;exact(h.mono hT hW).lb R h.hi h1 (aC hw R h.box λJ e=>by cases e) (aC hp R h.box λJ e=>by cases e) U hpt (hh.all λx v hx=>hx.stays R h.box (λJ e=>by cases e) λJ e=>by cases e)
end Abs
namespace Abs
open Go Go.Proofs Go.RowKit Go.Maps Go.Shelf Tryz
def ig (keep:WK→Bool)(c:CF):PF:=⟨{ c with wl:=c.wl.filter keep },c.wl.countP λx=>!keep x⟩
structure InS (w W:ü)(S C T J n:Nat)(K N M:Int→Bool)(f pv:ß)(wl:List Int)(l:List PF)(vs:List (List ß))(c:CF)(p q:ß)(P:List WK)(le:Nat)(u:ß):Prop where
 ms:MkS w W S C T n K N M f pv wl l vs
 lo:T≤J
 box:W.heap[J]? = ä (.cells #[.int .i64 c.st,p,q,.string c.nt,u,.int .i64 le] 54 (0,0))
 rp:W.ownsRow T 3 1 p c.ps.length (intsI c.ps)
 rq:W.ownsRow T 3 1 q c.qs.length (intsI c.qs)
 rr:W.ownsRow T 44 6 u P.length (flW P)
section
variable {w W j:ü}{S C T J n:Nat}{K N M:Int→Bool}{f pv:ß}{wl:List Int}{l:List PF}{vs:List (List ß)}{c:CF}{p q:ß}{P:List WK}{le:Nat}{u:ß}
def InS.quiet (h:InS w W S C T J n K N M f pv wl l vs c p q P le u)(g:W.grownBy j ö):InS w j S C T J n K N M f pv wl l vs c p q P le u :=
 ⟨h.ms.quiet g,h.lo,(g.block _ (δ.1 h.box).1 Ψ).trans h.box,bn h.rp g,bn h.rq g,bn h.rr g⟩
variable{v:ß}{ke' :List WK}{xs:List ß}
def InS.store (h:InS w W S C T J n K N M f pv wl l vs c p q P le u){i:Nat}{u' :ß}{le':Nat}
  (hc:(#[.int .i64 c.st,p,q,.string c.nt,u,.int .i64 le]:Array ß).setIfInBounds i v = #[.int .i64 c.st,p,q,.string c.nt,u',.int .i64 le']) (U:W.ownsRow T 44 6 u' ke'.length (flW ke')) :
  InS w (W.setCell ⟨J,i,ö⟩ v) S C T J n K N M f pv wl l vs c p q ke' le' u':=by
 obtain⟨R,j⟩:=bV h.box i v;rw[hc]at R;exact⟨h.ms.sb j λr e=>(by injection e with e;have:=h.lo;omega),h.lo,R,aC h.rp j h.box λg e=>(by cases e),aC h.rq j h.box λg e=>(by cases e),aC U j h.box λg e=>(by cases e)⟩
def InS.lb (h:InS w W S C T J n K N M f pv wl l vs c p q P le u)(R:W.grownBy j u.ownBlock):MkS w j S C T n K N M f pv wl l vs∧j.heap[J]? = ä (.cells #[.int .i64 c.st,p,q,.string c.nt,u,.int .i64 le] 54 (0,0))∧j.ownsRow T 3 1 p c.ps.length (intsI c.ps)∧j.ownsRow T 3 1 q c.qs.length (intsI c.qs):=by
 cases e:u.ownBlock with
 |none =>rw[e]at R;have q:=h.quiet R;exact⟨q.ms,q.box,q.rp,q.rq⟩
 |some g =>rw[e]at R;obtain⟨h1,U,h2⟩:=dI h.rr e;refine⟨h.ms.sb R λr e=>(by injection e with e;omega),(R.block _ (δ.1 h.box).1 λe'=>?_).trans h.box,aC h.rp R h2 λU e=>(by cases e),aC h.rq R h2 λU e=>(by cases e)⟩;have:=h.box;injection e' with e';rw[e',h2]at this;cases this
def InS.push (h:InS w W S C T J n K N M f pv wl l vs c p q P le u)(hg:W.grownBy j u.ownBlock){u':ß}(hw:j.ownsRow T 44 6 u' ke'.length (flW ke'))(hs:T≤j.heap.size):InS w (j.setCell ⟨J,4,ö⟩ u') S C T J n K N M f pv wl l vs c p q ke' le u':=by obtain⟨h1,U,h3,h4⟩:=h.lb hg;obtain⟨k1,R⟩:=bV U 4 u';exact⟨h1.sb R λr e=>(by injection e with e;have:=h.lo;omega),h.lo,k1,aC h3 R U λg e=>(by cases e),aC h4 R U λg e=>(by cases e),aC hw R U λg e=>(by cases e)⟩
def MkS.turn2 {row:Option Nat}(h:MkS w W S C T n K N M f pv wl l vs)(hg:W.grownBy j row)(hr:∀r,row=ä r→S+4≤r∧r≠C){i T':Nat}{p J :ß}{R:List Int}{l':List PF}{U:List (List ß)}(hT:T≤T')(hW:T'≤j.heap.size)
  (hc:(#[f,pv]:Array ß).setIfInBounds i v = #[p,J]) (hw:j.ownsRow (S+4) 3 1 p R.length (intsI R)) (hp:j.ownsRow (S+4) 54 6 J l'.length U.flatten) (hwt:∀g,p.ownBlock=ä g→g<T') (hpt:∀g,J.ownBlock=ä g→g<T') (hh:bK j (S+4) T' l' U) :
  MkS w (j.setCell ⟨C,i,ö⟩ v) S C T' n K N M p J R l' U:=by
 have hlo:=h.lo;have hhi:=h.hi;have lt:∀{k:Nat} {o:Obj},W.heap[k]? = ä o→k<W.heap.size:=λh=>(δ.1 h).1;have hb:=(hg.block _ (lt h.box) λe=>(hr C e.symm).2 rfl).trans h.box;obtain⟨h1,h2⟩:=bV hb i v;rw[hc]at h1;have P:=(hg.block _ (lt h.cz) λe=>by have:=(hr _ e.symm).1;omega).trans h.cz;exact⟨(h.below.grown hg h.below.size λr e=>by have:=(hr r e).1;omega).grown h2 (ξ h.below.size hg.size) λr e=>(by injection e with e;omega),(h2.block _ (δ.1 P).1 λe=>(by injection e with e;omega)).trans P,
  (h.env.kept hg λr e=>by have:=(hr r e).1;omega).kept h2 λr e=>(by injection e with e;omega),h.lo,h.hi,⟨d_ h.top.1 hT,ξ hW h2.size⟩,h1,aC hw h2 hb λcur e=>(by cases e),aC hp h2 hb λcur e=>(by cases e),hwt,hpt,
  hh.all λx v hx=>hx.stays h2 hb (λcur e=>(by cases e)) λcur e=>(by cases e)⟩
def Df {B e size n:Nat}(h:W.ownsRow B e size v n xs):∀g,v.ownBlock=ä g→g<W.heap.size:=λg e=>by obtain⟨_,f,h⟩:=dI h e;exact(δ.1 h).1
def vu {B B' e P size f n T:Nat}{r :ß}{p :List ß}(h:W.ownsRow B e size v n xs)(h':W.ownsRow B' P f r T p)(l:W.grownBy j r.ownBlock)(J:P≠e):j.ownsRow B e size v n xs:=by
 cases C:r.ownBlock with
 |none=>rw[C]at l;exact bn h l
 |some g=>
  rw[C]at l;obtain⟨_,cur,U⟩:=dI h' C;exact aC h l U λR e=>by cases e;exact J rfl
def MkS.boxP (h:MkS w W S C T n K N M f pv wl l vs)(g:W.grownBy j pv.ownBlock):j.heap[C]? = ä (.cells #[f,pv] 31 (0,0)) :=
 (g.block _ (δ.1 h.box).1 λe=>by
  obtain⟨_,r,p⟩:=dI h.parts e.symm;have:=h.box;rw[p]at this;cases this).trans h.box
def InS.done {keep:WK→Bool}(h:InS w W S C T J n K N M f pv wl l vs c p q (c.wl.filter keep) (c.wl.countP λx=>!keep x) u)(R:W.grownBy j pv.ownBlock){pv':ß}
  (ho:j.ownsRow (S+4) 54 6 pv' (l.length+1) (vs.flatten++[.int .i64 c.st,p,q,.string c.nt,u,.int .i64 (c.wl.countP λx=>!keep x:Nat)])) :
  MkS w (j.setCell ⟨C,1,ö⟩ pv') S C j.heap.size n K N M f pv' wl (l++[ig keep c]) (vs++[[.int .i64 c.st,p,q,.string c.nt,u,.int .i64 (c.wl.countP λx=>!keep x:Nat)]]):=by
 have hlo:=h.ms.lo;have hhi:=h.ms.hi;have U:=h.ms.top;have P:=h.ms.parts;have hp:=vu h.rp P R Ϛ;have hq:=vu h.rq P R Ϛ;have hu:=vu h.rr P R Ϛ;refine h.ms.turn2 R (λr e=>?_) (ξ U.2 R.size) (ε _) rfl (vu h.ms.want P R Ϛ) (by simpa using ho) (λg e=>d_ (h.ms.wlt g e) (ξ U.2 R.size)) (Df ho) (bK.push ?_ (h.ms.held.all λx v hx=>?_))
 ·obtain⟨h1,cur,h2⟩:=dI P e;refine⟨h1,λe'=>?_⟩;have:=h.ms.box;rw[←e',h2]at this;cases this
 ·exact⟨p,q,u,rfl,ct hp Ω,ct hq Ω,ct hu Ω,λg e=>e.elim (Df hp g) λe=>e.elim (Df hq g) (Df hu g)⟩
 ·have hx:=hx.mono (T':=j.heap.size) (ξ U.2 R.size);cases hv:pv.ownBlock with
  |none=>rw[hv]at R;exact hx.sb R λr e=>by cases e
  |some g =>rw[hv]at R;obtain⟨_,cur,ho⟩:=dI P hv;exact hx.stays R ho (λcur e=>(by cases e)) λcur e=>(by cases e)
end
def cJ.lo {W:ü}{B j T:Nat}{x:PF}{vs:List ß}(h:cJ W j T x vs)(g:B≤j):cJ W B T x vs:=by obtain⟨pv,l,f,rfl,J,C,r,p⟩:=h;exact⟨pv,l,f,rfl,ct J g,ct C g,ct r g,p⟩
variable{w:ü}{l:List WK}{m:Nat}
def KC {b:Nat}{r p v0 v1:ß}{t:æ}(h:w.heap[b]? = ä (.cells #[r,p] t (0,0))) :
  ((w.setCell ⟨b,0,ö⟩ v0).setCell ⟨b,1,ö⟩ v1).heap[b]? = ä (.cells #[v0,v1] t (0,0))∧w.grownBy ((w.setCell ⟨b,0,ö⟩ v0).setCell ⟨b,1,ö⟩ v1) (ä b):=by
 obtain⟨g,l⟩:=bV h 0 v0;obtain⟨f,j⟩:=bV g 1 v1;exact⟨by simpa using f,cX l j⟩
def Pw {f :ü}(h:Below w.heap.size w f):w.grownBy f none:=⟨h.os,h.tape,h.output,h.size,λk g _=>h.block k g⟩
def MkS.fin {W:ü}{S C T n:Nat}{K N M:Int→Bool}{f pv:ß}{p:List Int}{l:List PF}{r:List (List ß)}(h:MkS w W S C T n K N M f pv p l r) :
  ((W.setCell ⟨w.heap.size,0,ö⟩ f).setCell ⟨w.heap.size,1,ö⟩ pv).heap[w.heap.size]? = ä (.cells #[f,pv] 31 (0,0))∧Below w.heap.size w ((W.setCell ⟨w.heap.size,0,ö⟩ f).setCell ⟨w.heap.size,1,ö⟩ pv) ∧
   ((W.setCell ⟨w.heap.size,0,ö⟩ f).setCell ⟨w.heap.size,1,ö⟩ pv).ownsRow w.heap.size 3 1 f p.length (intsI p)∧((W.setCell ⟨w.heap.size,0,ö⟩ f).setCell ⟨w.heap.size,1,ö⟩ pv).ownsRow w.heap.size 54 6 pv l.length r.flatten ∧
   bK ((W.setCell ⟨w.heap.size,0,ö⟩ f).setCell ⟨w.heap.size,1,ö⟩ pv) w.heap.size ((W.setCell ⟨w.heap.size,0,ö⟩ f).setCell ⟨w.heap.size,1,ö⟩ pv).heap.size l r:=by
 have P:=h.lo;obtain⟨R,j⟩:=KC (v0:=f) (v1:=pv) h.cz;exact⟨R,h.below.grown j h.below.size λk e=>(by injection e with e;omega),ct (aC h.want j h.cz λg e=>(by cases e)) Ω,ct (aC h.parts j h.cz λg e=>(by cases e)) Ω,
  h.held.all λx v J=>((J.stays j h.cz (λg e=>(by cases e)) λg e=>(by cases e)).lo Ω).mono (ξ h.top.2 j.size)⟩
def MkL (w:ü)(S C n:Nat)(K N M:Int→Bool)(f:ß)(j:List Int)(keep:WK→Bool)(g:List CF)(i:ß)(wr:ü):Prop :=
 ∃k:Nat,k≤g.length∧i = .int .i64 k∧∃T pv l,MkS w wr S C T n K N M f pv j ((g.take k).map (ig keep)) l
def MkI (w:ü)(S C T J n:Nat)(K N M:Int→Bool)(f pv:ß)(g:List Int)(l:List PF)(j:List (List ß))(c:CF)(p q:ß)(keep:WK→Bool)(i:ß)(wr:ü):Prop :=
 ∃m:Nat,m≤c.wl.length∧i = .int .i64 m∧∃u,InS w wr S C T J n K N M f pv g l j c p q ((c.wl.take m).filter keep) ((c.wl.take m).countP λx=>!keep x) u
def Wk {keep:WK→Bool}(h:m<l.length)(f:keep l[m]=true):(l.take (m+1)).filter keep=(l.take m).filter keep++[l[m]]∧(l.take (m+1)).countP (λx=>!keep x)=(l.take m).countP λx=>!keep x:=by rw[N' h,W?,ak9];simp only[S?,alA,als,List.countP_nil,f];simp
def Wl {keep:WK→Bool}(h:m<l.length)(f:keep l[m]=false):(l.take (m+1)).filter keep=(l.take m).filter keep∧(l.take (m+1)).countP (λx=>!keep x)=(l.take m).countP (λx=>!keep x)+1:=by rw[N' h,W?,ak9];simp only[S?,alA,als,List.countP_nil,f];simp
end Abs
namespace Abs
open Go Go.Proofs Go.RowKit Go.Maps Go.Shelf Tryz
def LC (f:List (List WK))(ws:List Int)(r:GoodW f ws)(w:ü)(A J:Option Addr)(cap g:Nat)(C:dO w w.heap.size A f)(p:mR w w.heap.size J ws):Calls prog 34 #[.slice A f.length cap,.slice J ws.length g] w λe j=>∃S l,e = .returned (.func (.func 65) #[] #[.pointer (ä ⟨w.heap.size+1,0,ö⟩),.pointer (ä ⟨S+1+1,0,ö⟩),.pointer (ä ⟨S+1+1+1,0,ö⟩)])∧ot l (RchK f.flatten ws)∧Below w.heap.size w j∧w.heap.size+2≤S∧S+4≤j.heap.size ∧
   KEnv j w.heap.size (w.heap.size+1) S (S+1) (S+1+1) (S+1+1+1) f.flatten.length (λx=>l.contains x) (jQ f.flatten) (jR (λx=>l.contains x) f.flatten) :=
 (callsIn_wide (n:=9)).1 (XL f ws r w A J cap g C p)
def ints_of_sl {w:ü}{B:Nat}{A:Option Addr}{n c:Nat}{l:List Int}(h:fP w B (.slice A n c) n (intsI l))(C:n=l.length):mR w B A l:=λJ=>by obtain⟨R,P,e,_,r⟩:=h;cases e;obtain⟨b,o,e,f,p⟩:=r Ω;exact⟨b,o,e,f,λj g=>p j _ (by simp[intsI,g])⟩
def Pe (f:List Int)(all:List WK)(x:WK):Bool:=tT (λx=>f.contains x) (jQ all) (jR (λx=>f.contains x) all) x
def abm:(prog.info? 54).map (λi=>(i.zero,i.size,i.bytes))=ä (ä (.agg #[.int .i64 0,.slice ö 0 0,.slice ö 0 0,.string ByteArray.empty,.slice ö 0 0,.int .i64 0]),6,104):=Φ
def Q6:prog.underlying 29=ä (.slice 54):=Φ
set_option maxRecDepth 100000 in
set_option maxHeartbeats 3200000 in
def Xw (f:List CF)(ws:List Int)(hgd:GoodW (f.map (·.wl)) ws)(hpq:∀c∈f,c.ps.length≤1048576∧c.qs.length≤1048576)(w:ü)(A A2:Option Addr)(cap cap2:Nat)(hcs:uC w w.heap.size A f)(hws:fP w w.heap.size (.slice A2 ws.length cap2) ws.length (intsI ws))
  (hsort:∀(keep:WK→Bool) (W:ü) (B T:Nat) (v:ß) (vs:List (List ß)),W.ownsRow B 54 6 v (f.map (ig keep)).length vs.flatten→bK W B T (f.map (ig keep)) vs→Calls prog 39 #[v,.func (.func 40) #[] #[]] W λe W'=>e = .returned (.tuple #[])∧Below W.heap.size W W') :
  Calls prog 13 #[.slice A f.length cap,.slice A2 ws.length cap2] w λe w'=>∃wv pv ks vs,e = .returned (.agg #[wv,pv])∧ot ks (RchK (f.map (·.wl)).flatten ws)∧Below w.heap.size w w' ∧
   w'.ownsRow w.heap.size 3 1 wv (kn ws).length (intsI (kn ws))∧w'.ownsRow w.heap.size 54 6 pv f.length vs.flatten∧bK w' w.heap.size w'.heap.size (f.map (ig (Pe ks (f.map (·.wl)).flatten))) vs:=by
 have hwn:=hgd.wn
 go_enter func13,ntmps13
 go_upto_region 1 with fail
 obtain⟨W0,hW0⟩:∃W0,w.alloc (.cells #[.slice ö 0 0,.slice ö 0 0] 31)=W0:=⟨_,rfl⟩;have hb0:Below w.heap.size w W0:=by rw[←hW0];exact(Below.refl _ w).alloc (ε _) _
 have hs0:W0.heap.size=w.heap.size+1:=by rw[←hW0];simp
 have hc0:W0.heap[w.heap.size]? = ä (.cells #[.slice ö 0 0,.slice ö 0 0] 31 (0,0)):=by rw[←hW0];exact World.alloc_heap_new w _
 rw[hW0];clear hW0;have hkp:=LC (f.map (·.wl)) ws hgd W0 A A2 cap cap2 ((hcs.keep hb0).mono Ω).comms (ints_of_sl ((hws.keep hb0).mono Ω) rfl);rw[G']at hkp
 go_upto_region 2 with(first
  |(go_at_call 34;refine hkp.mono ?_;rintro e W1 ⟨S,ks,rfl,hasc,hb1,hlo,hhi,henv⟩)
  |go_in)
 clear hkp;have hb01:=hb0.trans (hb1.mono Ω);have hc1:=(hb1.block w.heap.size Ω).trans hc0;have hwsl:=(hws.keep hb01).mono (by omega:w.heap.size≤W1.heap.size)
 go_upto_region 3 with(first
  |(go_at_call 35;refine(kM ws Ω W1 _ hwsl).mono ?_;rintro e W2 ⟨v2,rfl,hr2,hg2⟩
    obtain⟨B2,d2,rfl⟩:=aO hr2)
  |go_in)
 have hM3:MkS w (W2.alloc (.cells #[.slice B2 ws.length d2,.slice ö 0 0] 31)) S W2.heap.size (W2.heap.size+1) (f.map (·.wl)).flatten.length (λx=>ks.contains x) (jQ (f.map (·.wl)).flatten) (jR (λx=>ks.contains x) (f.map (·.wl)).flatten) (.slice B2 ws.length d2) (.slice ö 0 0) ws [] []:=by
  have g3:=hg2.trans (κ W2 (.cells #[.slice B2 ws.length d2,.slice ö 0 0] 31) ö);rw[hs0]at henv hlo;have hs2:=hg2.size;exact⟨hb01.grown g3 hb01.size (λk e=>by cases e),(g3.block _ (δ.1 hc1).1 Ψ).trans hc1,henv.quiet g3,Ω,Ω,⟨akN _,Ψ⟩,World.alloc_heap_new _ _,
   ct (bn hr2 (κ _ _ ö)) Ω,⟨rfl,.inl ⟨rfl,rfl⟩⟩,λg e=>ale (by
    obtain⟨_,cur,h⟩:=dI hr2 e;exact(δ.1 h).1),λg e=>(by cases e),apa⟩
 generalize hb6:W2.heap.size=b6 at hM3⊢;generalize W2.alloc (.cells #[.slice B2 ws.length d2,.slice ö 0 0] 31)=W3 at hM3⊢;clear henv hlo hhi hb1 hwsl hr2 hg2 hb01 hc1 hc0 hb0 hb6;have hbx:=(ac hM3.box 0 rfl).1
 go_upto_region 4 with(first
  |(go_at_call 36;refine(Wx hM3.want Ω).mono ?_;rintro e W4 ⟨rfl,hr4,hg4⟩)
  |go_in)
 have hM4:=hM3.sorted hg4 (by rw[abs];exact hr4);clear hg4 hr4 hbx hM3;have hbx:=(ac hM4.box 0 rfl).1;have hwm:(ws.mergeSort λx y=>decide (x≤y)).length=ws.length:=abs ws
 go_upto_region 5 with(first
  |(go_at_call 37;refine(Ma hM4.want Ω).mono ?_;rintro e W5 ⟨v5,rfl,hr5,hg5,he5,rs5,ho5⟩
    obtain⟨B5,d5,rfl⟩:=aO hr5;have hM5:=hM4.sorted hg5 ho5;have hcb:=(ac hM5.box 0 rfl).1;have hfb:=(ac hM5.box 0 rfl).2)
  |go_in)
 have hM6:=hM5.set (ε _) hM5.top.2 (i:=0) (v :=.slice B5 (Lib.compact (ws.mergeSort λx y=>decide (x≤y))).length d5) rfl hr5 hM5.parts (λg e=>hM4.wlt g (he5 ▸ e)) hM5.plt hM5.held;generalize W5.setCell ⟨b6,0,ö⟩ (.slice B5 (Lib.compact (ws.mergeSort λx y=>decide (x≤y))).length d5)=W6 at hM6⊢;clear hbx hcb hfb hM5 hM4 hr5 hg5 he5 ho5 hwm hwn;generalize hall:(f.map (·.wl)).flatten=all at *;obtain⟨keep,hkeep⟩:∃keep:WK→Bool,keep=Pe ks all:=⟨_,rfl⟩;have hkb:∀x,tT (λx=>ks.contains x) (jQ all) (jR (λx=>ks.contains x) all) x=keep x:=λx=>by rw[hkeep];rfl
 generalize (λx=>ks.contains x)=K at hM6 hkb;generalize jQ all=N at hM6 hkb;generalize jR K all=M at hM6 hkb;change MkS w W6 S b6 (b6+1) all.length K N M (.slice B5 (kn ws).length d5) (.slice ö 0 0) (kn ws) [] []at hM6;generalize all.length=n at hM6;have hkeepA:Aside (keep=Pe ks all):=hkeep;have hallA:Aside ((f.map (·.wl)).flatten=all):=hall;clear hws hkeep hall;have hcn:=hgd.n;rw[G']at hcn
 go_wp2
 go_loopw [27] (λi wr=>MkL w S b6 n K N M (.slice B5 (kn ws).length d5) (kn ws) keep f i wr) (λi _=>f.length-(Go.RowKit.intOf i).toNat)
 case atStart=>exact⟨0,Y' _,rfl,b6+1,_,[],hM6⟩
 case round=>
  clear hM6;obtain⟨k,hk,rfl,T,pv,vs,hM⟩:=hrel;by_cases hlt:k<f.length
  ·obtain⟨b,off,rfl,hbl,hcell⟩:=hcs Ω;obtain⟨pv0,qv0,wv0,q0,q1,q2,q3,q4,hsp,hsq,hsW⟩:=hcell k hlt;have tr:∀o v,w.cell? ⟨b,o,ö⟩=ä v→wr.cell? ⟨b,o,ö⟩=ä v:=λo v h=>(hM.below.cell (p:=⟨b,o,ö⟩) hbl).trans h;have q0:=tr _ _ q0;have q1:=tr _ _ q1;have q2:=tr _ _ q2;have q3:=tr _ _ q3;have q4:=tr _ _ q4;have hsp:=hsp.keep hM.below;have hsq:=hsq.keep hM.below;have hsw:=hsW.keep hM.below;clear tr;obtain⟨A1,c1,rfl, -⟩:=id hsp;obtain⟨A2',c2,rfl, -⟩:=id hsq;obtain⟨A3,c3,rfl, -⟩:=id hsw;clear hcell
   go_upto_region 8 with fail
   have hgX:=κ wr (.cells #[.int .i64 f[k].st,.slice A1 f[k].ps.length c1,.slice A2' f[k].qs.length c2,.string f[k].nt,.slice A3 f[k].wl.length c3] 38) ö;have r:=World.alloc_heap_new wr (.cells #[.int .i64 f[k].st,.slice A1 f[k].ps.length c1,.slice A2' f[k].qs.length c2,.string f[k].nt,.slice A3 f[k].wl.length c3] 38);have hXs:(wr.alloc (.cells #[.int .i64 f[k].st,.slice A1 f[k].ps.length c1,.slice A2' f[k].qs.length c2,.string f[k].nt,.slice A3 f[k].wl.length c3] 38)).heap.size=wr.heap.size+1:=by simp
   generalize wr.alloc (.cells #[.int .i64 f[k].st,.slice A1 f[k].ps.length c1,.slice A2' f[k].qs.length c2,.string f[k].nt,.slice A3 f[k].wl.length c3] 38)=X at hgX r hXs⊢;have hMX:=(hM.mono hM.top.2 (ε _)).quiet hgX;have hwr:=hM.below.size;have hbX:Below w.heap.size wr X:=(Below.refl w.heap.size wr).grown hgX hwr λk e=>by cases e
   have hcop:=kL f[k].st _ _ _ f[k].nt f[k].ps f[k].qs f[k].wl X (hpq _ (j_ hlt)).1 (hpq _ (j_ hlt)).2 (hgd.m _ (o? (j_ hlt))) ((hsp.keep hbX).mono Ω) ((hsq.keep hbX).mono Ω) ((hsw.keep hbX).mono Ω);have k0:=(ac r 0 rfl).1;have k1:=(ac r 1 rfl).1;have k2:=(ac r 2 rfl).1;have k3:=(ac r 3 rfl).1;have k4:=(ac r 4 rfl).1;clear q0 q1 q2 q3 q4 hsp hsq hsw hM
   go_upto_region 9 with(first
    |(go_at_call 38;refine hcop.mono ?_;rintro e Y ⟨p,q,y,rfl,hgY,hrp,hrq,hry⟩
      obtain⟨P1,e1,rfl⟩:=aO hrp;obtain⟨P2,e2,rfl⟩:=aO hrq;obtain⟨P3,e3,rfl⟩:=aO hry)
    |go_in)
   have hgZ:=hgY.trans (κ Y (.cells #[.int .i64 f[k].st,.slice P1 f[k].ps.length e1,.slice P2 f[k].qs.length e2,.string f[k].nt,.slice P3 f[k].wl.length e3,.int .i64 0] 54) ö);have hlY:=hgY.size;have l:InS w (Y.alloc (.cells #[.int .i64 f[k].st,.slice P1 f[k].ps.length e1,.slice P2 f[k].qs.length e2,.string f[k].nt,.slice P3 f[k].wl.length e3,.int .i64 0] 54)) S b6 wr.heap.size Y.heap.size n K N M (.slice B5 (kn ws).length d5) pv (kn ws) ((f.take k).map (ig keep)) vs f[k] (.slice P1 f[k].ps.length e1) (.slice P2 f[k].qs.length e2) f[k].wl 0 (.slice P3 f[k].wl.length e3) :=
    ⟨hMX.quiet hgZ,Ω,World.alloc_heap_new _ _,ct (bn hrp (κ _ _ _)) Ω,ct (bn hrq (κ _ _ _)) Ω,ct (bn hry (κ _ _ _)) Ω⟩
   have r:=(hgZ.block _ (δ.1 r).1 Ψ).trans r;generalize hb9:Y.heap.size=b9 at l⊢;generalize Y.alloc (.cells #[.int .i64 f[k].st,.slice P1 f[k].ps.length e1,.slice P2 f[k].qs.length e2,.string f[k].nt,.slice P3 f[k].wl.length e3,.int .i64 0] 54)=Z at l r hgZ⊢;clear hMX hcop k0 k1 k2 k3 k4 hrp hrq hry hgY;have z4:=(ac l.box 4 rfl).1;have y4:=(ac l.box 4 rfl).2
   go_upto_region 10 with fail
   have hI2:=l.store (i:=4) (v :=.slice ö 0 0) (u' :=.slice ö 0 0) (ke':=[]) (le':=0) rfl ⟨rfl,.inl ⟨rfl,rfl⟩⟩;have r:(Z.setCell ⟨b9,4,ö⟩ (.slice ö 0 0)).heap[wr.heap.size]? = _:=(heap_setCell_other _ _ _ _ (by show wr.heap.size≠b9;omega)).trans r;generalize Z.setCell ⟨b9,4,ö⟩ (.slice ö 0 0)=V at hI2 r⊢;have k4:=(ac r 4 rfl).1;clear l z4 y4 hgZ;have hVs:wr.heap.size≤V.heap.size:=by have:=hI2.ms.top.2;omega
   clear r hgX hXs hlY hb9 hbX
   go_wp2
   clear k4;generalize wr.heap.size=T0 at *
   go_loopw [39] (λj wx=>MkI w S b6 T0 b9 n K N M (.slice B5 (kn ws).length d5) pv (kn ws) ((f.take k).map (ig keep)) vs f[k] (.slice P1 f[k].ps.length e1) (.slice P2 f[k].qs.length e2) keep j wx) (λj _=>f[k].wl.length-(Go.RowKit.intOf j).toNat)
   case atStart=>exact⟨0,Y' _,rfl,_,hI2⟩
   case round=>
    clear hI2;obtain⟨m,hm,rfl,u,l⟩:=hrel;have hml:=hgd.m _ (o? (j_ hlt));by_cases hmt:m<f[k].wl.length
    ·obtain⟨pb,po,rfl,hpb,hwr⟩:=yh hsW m hmt;obtain⟨x0,x1,x2,x3,x4,x5⟩:=hwr.keep l.ms.below hpb;have hxi:=(hgd.wf f[k].wl[m] (akP.2 ⟨_,o? (j_ hlt),j_ hmt⟩)).1
     go_upto_region 13 with fail
     have hgR:=κ wr (.cells #[.int .i64 f[k].wl[m].id,.int .i64 f[k].wl[m].fd,.int .i64 f[k].wl[m].nn,.bool f[k].wl[m].fl,.string f[k].wl[m].tx,.int .i64 f[k].wl[m].rf] 44) ö;have U:=World.alloc_heap_new wr (.cells #[.int .i64 f[k].wl[m].id,.int .i64 f[k].wl[m].fd,.int .i64 f[k].wl[m].nn,.bool f[k].wl[m].fl,.string f[k].wl[m].tx,.int .i64 f[k].wl[m].rf] 44);generalize wr.alloc (.cells #[.int .i64 f[k].wl[m].id,.int .i64 f[k].wl[m].fd,.int .i64 f[k].wl[m].nn,.bool f[k].wl[m].fl,.string f[k].wl[m].tx,.int .i64 f[k].wl[m].rf] 44)=R at hgR U⊢;have l:=l.quiet hgR;clear x0 x1 x2 x3 x4 x5 hwr hgR;generalize wr.heap.size=b11 at U⊢;have hkc:=SO R (w.heap.size+1) (w.heap.size+1+1) S (S+1) (S+1+1) (S+1+1+1) n K N M l.ms.env f[k].wl[m] hxi;rw[hkb]at hkc;have r0:=(ac U 0 rfl).1;have r1:=(ac U 1 rfl).1;have r2:=(ac U 2 rfl).1;have r3:=(ac U 3 rfl).1;have r4:=(ac U 4 rfl).1;have r5:=(ac U 5 rfl).1;cases hkx:keep f[k].wl[m]with
     |true=>
      rw[hkx]at hkc
      go_upto_region 14 with(first
       |(go_at_call 65;refine hkc.mono ?_;rintro e R2 ⟨rfl,hR2⟩)
       |go_in)
      have J:=κ R (.cells #[.int .i64 f[k].wl[m].id,.int .i64 f[k].wl[m].fd,.int .i64 f[k].wl[m].nn,.bool f[k].wl[m].fl,.string f[k].wl[m].tx,.int .i64 f[k].wl[m].rf] 44) ö;rw[←hR2]at J⊢;have U:=(J.block _ (δ.1 U).1 Ψ).trans U;have l:=l.quiet J;clear r0 r1 r2 r3 r4 r5 hR2 J hkc;have r0:=(ac U 0 rfl).1;have r1:=(ac U 1 rfl).1;have r2:=(ac U 2 rfl).1;have r3:=(ac U 3 rfl).1;have r4:=(ac U 4 rfl).1;have r5:=(ac U 5 rfl).1;obtain⟨UA,uc,rfl⟩:=aO l.rr;have z4:=(ac l.box 4 rfl).1;have hkl:((f[k].wl.take m).filter keep).length≤1048576:=ξ (H_ _ _) (by rw[g_];omega);obtain⟨i0,hi0,hz0,hz1,hz2⟩:=info_parts agK;have harr:=World.alloc_heap_new R2 (.cells #[.int .i64 f[k].wl[m].id,.int .i64 f[k].wl[m].fd,.int .i64 f[k].wl[m].nn,.bool f[k].wl[m].fl,.string f[k].wl[m].tx,.int .i64 f[k].wl[m].rf] 44);have hgA:=κ R2 (.cells #[.int .i64 f[k].wl[m].id,.int .i64 f[k].wl[m].fd,.int .i64 f[k].wl[m].nn,.bool f[k].wl[m].fl,.string f[k].wl[m].tx,.int .i64 f[k].wl[m].rf] 44) ö;have hnew:Aside (∀j v,(gp f[k].wl[m])[j]? = ä v→(R2.alloc (.cells #[.int .i64 f[k].wl[m].id,.int .i64 f[k].wl[m].fd,.int .i64 f[k].wl[m].nn,.bool f[k].wl[m].fl,.string f[k].wl[m].tx,.int .i64 f[k].wl[m].rf] 44)).cell? (Addr.add ⟨R2.heap.size,0,ö⟩ j)=ä v):=λj v hj=>by
       have:(gp f[k].wl[m]).toArray[j]? = ä v:=by rw[Z_];exact hj
       rw[Addr.add_mid,DE harr,Z'];exact this
      have hone:Aside (∀u∈gp f[k].wl[m],u.oneCell'=true):=λu (hu:u∈gp f[k].wl[m])=>U7 [f[k].wl[m]] u (by simpa[flW]using hu);have C:=l.quiet hgA;have htR:=C.ms.top.2
      go_upto_region 16 with(first
       |(at_builtin;refine dc _ rfl (.tmp 48) (.tmp 50) 36 rfl T0 44 i0 (.agg #[.int .i64 0,.int .i64 0,.int .i64 0,.bool false,.string ByteArray.empty,.int .i64 0]) 6 56 (lR) hi0 hz0 hz1 hz2 rfl Ϛ (.slice UA ((f[k].wl.take m).filter keep).length uc) _ (flW ((f[k].wl.take m).filter keep)) rfl C.rr (ä ⟨R2.heap.size,0,ö⟩) 1 1 (gp f[k].wl[m]) rfl rfl (.inr ⟨_,rfl,hnew.out⟩) hone.out (by unfold maxLen;omega) Ω htR ?_;intro v' w' h2 g2 _
         obtain⟨V1,v1,rfl⟩:=aO h2;have hT:=C.lb g2;have t4:=(ac hT.2.1 4 rfl).1;have y4:=(ac hT.2.1 4 rfl).2)
       |go_in)
      obtain⟨tk1,tk2⟩:=Wk hmt hkx;have hI5:=C.push g2 (u' :=.slice V1 (((f[k].wl.take m).filter keep).length+1) v1) (ke':=(f[k].wl.take (m+1)).filter keep) (by rw[tk1,afh,J'];exact h2) hT.1.top.2;rw[←tk2]at hI5;clear hT t4 y4 hnew hone C htR
      go_wp2
      go_roundw
      case rel=>exact⟨m+1,hmt,Ψ,_,hI5⟩
      case measure=>simp[Go.RowKit.intOf];omega
     |false=>
      rw[hkx]at hkc
      go_upto_region 15 with(first
       |(go_at_call 65;refine hkc.mono ?_;rintro e R2 ⟨rfl,hR2⟩)
       |go_in)
      have J:=κ R (.cells #[.int .i64 f[k].wl[m].id,.int .i64 f[k].wl[m].fd,.int .i64 f[k].wl[m].nn,.bool f[k].wl[m].fl,.string f[k].wl[m].tx,.int .i64 f[k].wl[m].rf] 44) ö;rw[←hR2]at J⊢;have l:=l.quiet J;clear r0 r1 r2 r3 r4 r5 hR2 J hkc U;have z5:=(ac l.box 5 rfl).1;have y5:=(ac l.box 5 rfl).2;have hcl:(f[k].wl.take m).countP (λx=>!keep x)≤1048576:=ξ akW (by rw[g_];omega);obtain⟨tk1,tk2⟩:=Wl hmt hkx
      go_wp2
      go_roundw
      case rel =>refine⟨m+1,hmt,Ψ,u, ?_⟩;rw[tk1,tk2];have:=l.store (i:=5) (v :=.int .i64 ((f[k].wl.take m).countP (λx=>!keep x)+1:Nat)) (u':=u) (le':=(f[k].wl.take m).countP (λx=>!keep x)+1) rfl l.rr;simpa using this
      case measure=>simp[Go.RowKit.intOf];omega
    ·obtain rfl:m=f[k].wl.length:=Ω
     rw[x_]at l;obtain⟨VP,vp,hvp⟩:=aO l.ms.parts;have hlk:((f.take k).map (ig keep)).length=k:=by rw[G',g_];omega
     rw[hlk]at hvp;rw[hvp]at l;have z1:=(ac l.ms.box 1 rfl).1;have w0:=(ac l.box 0 rfl).1;have w1:=(ac l.box 1 rfl).1;have w2:=(ac l.box 2 rfl).1;have w3:=(ac l.box 3 rfl).1;have w4:=(ac l.box 4 rfl).1;have w5:=(ac l.box 5 rfl).1;obtain⟨i0,hi0,hz0,hz1,hz2⟩:=info_parts abm;have hus:u.oneCell'=true:=by obtain⟨UA,uc,rfl⟩:=aO l.rr;rfl
     have harr:=World.alloc_heap_new wr (.cells #[.int .i64 f[k].st,.slice P1 f[k].ps.length e1,.slice P2 f[k].qs.length e2,.string f[k].nt,u,.int .i64 (f[k].wl.countP λx=>!keep x:Nat)] 54);have hgA:=κ wr (.cells #[.int .i64 f[k].st,.slice P1 f[k].ps.length e1,.slice P2 f[k].qs.length e2,.string f[k].nt,u,.int .i64 (f[k].wl.countP λx=>!keep x:Nat)] 54) ö;have hnew:Aside (∀j v,([.int .i64 f[k].st,.slice P1 f[k].ps.length e1,.slice P2 f[k].qs.length e2,.string f[k].nt,u,.int .i64 (f[k].wl.countP λx=>!keep x:Nat)]:List ß)[j]? = ä v→(wr.alloc (.cells #[.int .i64 f[k].st,.slice P1 f[k].ps.length e1,.slice P2 f[k].qs.length e2,.string f[k].nt,u,.int .i64 (f[k].wl.countP λx=>!keep x:Nat)] 54)).cell? (Addr.add ⟨wr.heap.size,0,ö⟩ j)=ä v):=λj v hj=>by
      have:([.int .i64 f[k].st,.slice P1 f[k].ps.length e1,.slice P2 f[k].qs.length e2,.string f[k].nt,u,.int .i64 (f[k].wl.countP λx=>!keep x:Nat)]:List ß).toArray[j]? = ä v:=by rw[Z_];exact hj
      rw[Addr.add_mid,DE harr,Z'];exact this
     have hone:Aside (∀v∈([.int .i64 f[k].st,.slice P1 f[k].ps.length e1,.slice P2 f[k].qs.length e2,.string f[k].nt,u,.int .i64 (f[k].wl.countP λx=>!keep x:Nat)]:List ß),v.oneCell'=true):=λv hv=>by
      simp only[c_,alq,or_false]at hv;obtain rfl|rfl|rfl|rfl|rfl|rfl:=hv <;> first|rfl|exact hus
     have C:=l.quiet hgA;have htR:=C.ms.top.2;have hS6:S+4≤(wr.alloc (.cells #[.int .i64 f[k].st,.slice P1 f[k].ps.length e1,.slice P2 f[k].qs.length e2,.string f[k].nt,u,.int .i64 (f[k].wl.countP λx=>!keep x:Nat)] 54)).heap.size:=by have:=C.ms.top.1;have:=C.ms.hi;omega
     have P:=C.ms.parts;rw[hlk]at P;have hlkA:Aside (((f.take k).map (ig keep)).length=k):=hlk;clear hlk
     go_upto_region 18 with(first
      |(at_builtin;refine dc _ rfl (.tmp 60) (.tmp 62) 29 rfl (S+4) 54 i0 (.agg #[.int .i64 0,.slice ö 0 0,.slice ö 0 0,.string ByteArray.empty,.slice ö 0 0,.int .i64 0]) 6 104 Q6 hi0 hz0 hz1 hz2 rfl Ϛ (.slice VP k vp) k vs.flatten rfl P (ä ⟨wr.heap.size,0,ö⟩) 1 1 [.int .i64 f[k].st,.slice P1 f[k].ps.length e1,.slice P2 f[k].qs.length e2,.string f[k].nt,u,.int .i64 (f[k].wl.countP λx=>!keep x:Nat)] rfl rfl (.inr ⟨_,rfl,hnew.out⟩) hone.out (by unfold maxLen;omega) Ω hS6 ?_;intro v' w' h2 g2 _
        obtain⟨V1,v1,rfl⟩:=aO h2;have hbP:=C.ms.boxP g2;have t1:=(ac hbP 1 rfl).1;have y1:=(ac hbP 1 rfl).2)
      |go_in)
     have hM7:=C.done g2 (pv' :=.slice V1 (k+1) v1) (by rw[hlkA.out];exact h2);clear C l htR hS6 hnew hone h2 g2 hbP t1 y1 P
     go_wp2
     go_roundw
     case rel=>
      have e:(f.take k).map (ig keep)++[ig keep f[k]]=(f.take (k+1)).map (ig keep):=by rw[N' hlt,T_];rfl
      rw[e]at hM7;exact⟨k+1,hlt,Ψ,_,_,_,hM7⟩
     case measure=>simp[Go.RowKit.intOf];omega
  ·obtain rfl:k=f.length:=Ω
   rw[x_]at hM;obtain⟨VP,vp,rfl⟩:=aO hM.parts;have z1:=(ac hM.box 1 rfl).1;have hso:=hsort keep _ _ _ _ _ hM.parts hM.held;rw[G']at hso
   go_upto_region 20 with(first
    |(go_at_call 39;refine hso.mono ?_;rintro e W9 ⟨rfl,hb9⟩)
    |go_in)
   have hM9:=hM.quiet (Pw hb9);clear hM z1 hso hb9;have k0:=(ac hM9.box 0 rfl).1;have k1:=(ac hM9.box 1 rfl).1;have o0:=(ac hM9.cz 0 rfl).1;have o1:=(ac hM9.cz 1 rfl).1;have f0:=(ac hM9.cz 0 rfl).2;have f1:=(ac hM9.cz 1 rfl).2;have hF:=hM9.fin;rw[G']at hF;clear hM9
   go_wp2
   obtain⟨hF1,hF2,hF3,hF4,hF5⟩:=hF;refine alc (results_cell_row rfl _ _ w.heap.size _ _ _ _ rfl hF1 underlying31 rfl Φ) rfl ?_;rw[hallA.out];rw[hkeepA.out]at hF5;exact⟨_,_,ks,vs,rfl,hasc,hF2,hF3,hF4,hF5⟩
end Abs
