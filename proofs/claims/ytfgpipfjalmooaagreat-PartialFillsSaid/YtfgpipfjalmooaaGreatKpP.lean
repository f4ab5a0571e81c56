/- Parts. -/
import Derived.Shelf.Slices.CompactI
import Derived.Test.YtfgpipfjalmooaaGreatKpJ
import Derived.Deep.AppendSrc
import Derived.WalkSpells
import Derived.Deep.Cut
import Derived.Handy
set_option linter.all false
namespace Go.Proofs
open Go.Shelf Tryz
end Go.Proofs
namespace Go.Proofs.YtfgpipfjalmooaaGreat
namespace Abs
open Go Go.Proofs Go.RowKit Go.Maps Go.Shelf Tryz
def iX (w:World)(B:Nat)(v:Value)(n:Nat)(f:List Value):Prop :=
 ∃A c,v = .slice A n c∧(A=none→n=0)∧(0<n→∃b o,A=some ⟨b,o,none⟩∧b<B∧∀j u,f[j]? = some u→w.cell? ⟨b,o+j,none⟩=some u)
variable{v:Value}{xs:List Value}
def iX.keep {w w':World}{B n:Nat}(h:iX w B v n xs)(C:Below B w w'):iX w' B v n xs:=by obtain⟨A,c,e,P,J⟩:=h;refine⟨A,c,e,P,λg=>?_⟩;obtain⟨b,o,R,f,r⟩:=J g;exact⟨b,o,R,f,λj u l=>(C.cell (p:=⟨b,o+j,none⟩) f).trans (r j u l)⟩
def iX.mono {w:World}{B f n:Nat}(h:iX w B v n xs)(J:B≤f):iX w f v n xs:=by obtain⟨A,c,e,p,l⟩:=h;refine⟨A,c,e,p,λg=>?_⟩;obtain⟨b,o,r,C,j⟩:=l g;exact⟨b,o,r,Ω,j⟩
def kQ {P:Program}(w:World){R:Array Oper}{rest:List Oper}{o:Oper}{a:Act}{Q:Exit→Act→World→Prop}(hgd:o.guard=none)(s x:Operand)(t:TypeId)
  (ho:o.op = .call { callee :=.builtin .append,args :=#[s,x],argTypes :=#[t,t] }) (g:Nat) (e:TypeId) (i:TypeInfo) (z:Value) (size bytes:Nat) (ht:P.underlying t=some (.slice e)) (hi:P.info? e=some i) (hz:i.zero=some z)
  (p:i.size=size) (hby:i.bytes=bytes) (U:z.cells.size=size) (hsz:0<size) (v:Value) (n:Nat) (xs:List Value) (hs:a.eval s=v) (T:w.ownsRow g e size v n xs)
  (A:Option Addr) (m c:Nat) (f:List Value) (hx:a.eval x = .slice A m c) (hl:f.length=m*size) (hA:m=0∨∃ad,A=some ad∧∀j u,f[j]? = some u→w.cell? (ad.add j)=some u) (h1:∀u∈f,u.oneCell'=true)
  (h63:n+m≤maxLen) (l:(n+m)*bytes≤140737488355328) (r:g≤w.heap.size)
  (h:∀C J,J.ownsRow g e size C (n+m) (xs++f)→w.grownBy J v.ownBlock→(C.ownBlock=v.ownBlock∨C.ownBlock=some w.heap.size)→wpList P R Q rest (a.put o.dst C) J):wpList P R Q (o::rest) a w :=
 aky hgd λ_ hK=>by obtain⟨C,J,hr,h2,h3,h4,_,_⟩:=b8 (P:=P) (B:={ b:=g }) w t o.type e i z size bytes ht hi hz p hby U hsz v n xs T A m c f hl hA h1 h63 l r;unfold Oper.wp execOp;simp[ho,resolve,invoke,builtin,ν,j_,hs,hx,hr];exact hK _ _ (h C J h2 h3 h4)
def tw (x:WK):List Value:=[.int .i64 x.id,.int .i64 x.fd,.int .i64 x.nn,.bool x.fl,.string x.tx,.int .i64 x.rf]
def flW (l:List WK):List Value:=(l.map tw).flatten
def Wl (l:List WK):(flW l).length=l.length*6:=by
 induction l with
 |nil=>rfl
 |cons x l f=>simp[flW,tw]at f⊢;omega
def afj (l:List WK):∀u∈flW l,u.oneCell'=true:=by intro u f;obtain⟨c,g,f⟩:=List.mem_flatten.1 f;obtain⟨x,_,rfl⟩:=a_.1 g;simp[tw]at f;obtain rfl|rfl|rfl|rfl|rfl|rfl:=f <;> rfl
def YQ (l:List Int):∀u∈intsI l,u.oneCell'=true:=by simp[intsI,Value.oneCell']
def Kl (l:List Int):(intsI l).length=l.length*1:=by simp[intsI]
def aiT:(prog.info? 44).map (λi=>(i.zero,i.size,i.bytes))=some (some (.agg #[.int .i64 0,.int .i64 0,.int .i64 0,.bool false,.string ByteArray.empty,.int .i64 0]),6,56):=Φ
def ur:prog.underlying 23=some (.slice 3):=Φ
def uq:prog.underlying 36=some (.slice 44):=Φ
set_option maxHeartbeats 1000000 in
def tu (l:List Int)(h:l.length≤1048576)(w:World)(v:Value)(hv:iX w w.heap.size v l.length (intsI l)):Calls prog 35 #[v] w λe r=>∃T,e = .returned T∧r.ownsRow w.heap.size 3 1 T l.length (intsI l)∧w.grownBy r none:=by
 obtain⟨A,c,rfl,h0,h1⟩:=hv;obtain⟨i0,hi0,hz0,hz1,hz2⟩:=info_parts aiV;have qn:∀(w:World) (a:Option Addr) (n c U c':Nat),(binOp .eql 23 (.slice a n c) (.slice none U c')).run prog w = .ok (.bool a.isNone) w:=λw a n c U c'=>Lib.run_eql_slice_nil w _ _ a n c U c' (ur);cases A with
 |none=>
  have hl:=h0 rfl;have J:∀r:World,r.ownsRow w.heap.size 3 1 (.slice none 0 0) l.length (intsI l):=λr=>⟨Kl l,.inl ⟨rfl,hl⟩⟩
  go_enter func35,ntmps35
  go_wp2
  go_ret
  refine⟨_,rfl, ?_,rfl,rfl,rfl,ζ _,λ_ _ _=>rfl⟩;have:=J w;simpa[hl]using this
 |some ad=>
  have hc:l.length=0∨∃R,(some ad:Option Addr)=some R∧∀j u,(intsI l)[j]? = some u→(w.alloc (.cells #[] 3)).cell? (R.add j)=some u:=by
   obtain h|h:=Nat.eq_zero_or_pos l.length
   ·exact .inl h
   ·obtain⟨b,o,e,hlt,g⟩:=h1 h;cases e;refine .inr ⟨_,rfl,λj u hj=>?_⟩;rw[Addr.add_mid];exact((Below.refl _ w).alloc (ζ _) _ |>.cell (p:=⟨b,o+j,none⟩) hlt).trans (g j u hj)
  have f:(w.alloc (.cells #[] 3)).ownsRow w.heap.size 3 1 (.slice (some ⟨w.heap.size,0,none⟩) 0 0) 0 []:=World.ownsRow_made _ #[] 0 (ζ _) (i_ _) rfl
  go_enter func35,ntmps35
  go_wp2_with (first
   |(at_builtin;refine kQ _ rfl (.tmp 5) (.tmp 6) 23 rfl w.heap.size 3 i0 (.int .i64 0) 1 8 (ur) hi0 hz0 hz1 hz2 rfl Ϛ (.slice (some ⟨w.heap.size,0,none⟩) 0 0) 0 [] rfl f (some ad) l.length _ (intsI l) rfl (Kl l) hc (YQ l) (by unfold maxLen;omega) Ω Ψ ?_;intro T r h2 P _)
   |go_in)
  go_ret
  refine⟨T,rfl,by simpa using h2, ?_⟩;have C:=C' w (.cells #[] 3) none;exact⟨P.os.trans C.os,P.tape.trans C.tape,P.output.trans C.output,Δ C.size P.size,λk hk _=>(P.block k (f_ hk C.size) (λe=>by have e:some k=some w.heap.size:=e;injection e with e;omega)).trans (C.block k hk Ψ)⟩
set_option maxHeartbeats 1000000 in
def Ng (l:List WK)(h:l.length≤1048576)(w:World)(v:Value)(hv:iX w w.heap.size v l.length (flW l)):Calls prog 68 #[v] w λe r=>∃T,e = .returned T∧r.ownsRow w.heap.size 44 6 T l.length (flW l)∧w.grownBy r none:=by
 obtain⟨A,c,rfl,h0,h1⟩:=hv;obtain⟨i0,hi0,hz0,hz1,hz2⟩:=info_parts aiT;have qn:∀(w:World) (a:Option Addr) (n c U c':Nat),(binOp .eql 36 (.slice a n c) (.slice none U c')).run prog w = .ok (.bool a.isNone) w:=λw a n c U c'=>Lib.run_eql_slice_nil w _ _ a n c U c' (uq);cases A with
 |none=>
  have hl:=h0 rfl;have J:∀r:World,r.ownsRow w.heap.size 44 6 (.slice none 0 0) l.length (flW l):=λr=>⟨Wl l,.inl ⟨rfl,hl⟩⟩
  go_enter func68,ntmps68
  go_wp2
  go_ret
  refine⟨_,rfl, ?_,rfl,rfl,rfl,ζ _,λ_ _ _=>rfl⟩;have:=J w;simpa[hl]using this
 |some ad=>
  have hc:l.length=0∨∃R,(some ad:Option Addr)=some R∧∀j u,(flW l)[j]? = some u→(w.alloc (.cells #[] 44)).cell? (R.add j)=some u:=by
   obtain h|h:=Nat.eq_zero_or_pos l.length
   ·exact .inl h
   ·obtain⟨b,o,e,hlt,g⟩:=h1 h;cases e;refine .inr ⟨_,rfl,λj u hj=>?_⟩;rw[Addr.add_mid];exact((Below.refl _ w).alloc (ζ _) _ |>.cell (p:=⟨b,o+j,none⟩) hlt).trans (g j u hj)
  have f:(w.alloc (.cells #[] 44)).ownsRow w.heap.size 44 6 (.slice (some ⟨w.heap.size,0,none⟩) 0 0) 0 []:=World.ownsRow_made _ #[] 0 (ζ _) (i_ _) rfl
  go_enter func68,ntmps68
  go_wp2_with (first
   |(at_builtin;refine kQ _ rfl (.tmp 5) (.tmp 6) 36 rfl w.heap.size 44 i0 (.agg #[.int .i64 0,.int .i64 0,.int .i64 0,.bool false,.string ByteArray.empty,.int .i64 0]) 6 56 (uq) hi0 hz0 hz1 hz2 rfl Ϛ (.slice (some ⟨w.heap.size,0,none⟩) 0 0) 0 [] rfl f (some ad) l.length _ (flW l) rfl (Wl l) hc (afj l) (by unfold maxLen;omega) Ω Ψ ?_;intro T r h2 P _)
   |go_in)
  go_ret
  refine⟨T,rfl,by simpa using h2, ?_⟩;have C:=C' w (.cells #[] 44) none;exact⟨P.os.trans C.os,P.tape.trans C.tape,P.output.trans C.output,Δ C.size P.size,λk hk _=>(P.block k (f_ hk C.size) (λe=>by have e:some k=some w.heap.size:=e;injection e with e;omega)).trans (C.block k hk Ψ)⟩
end Abs
namespace Abs
open Go Go.Proofs Go.RowKit Go.Maps Go.Shelf Tryz
variable{w w' :World}{b base size r:Nat}{cs:Array Value}{t:TypeId}{v:Value}{xs:List Value}
def cU (h:w.heap[b]? = some (.cells cs t (0,0)))(i:Nat)(v:Value) :
  (w.setCell ⟨b,i,none⟩ v).heap[b]? = some (.cells (cs.setIfInBounds i v) t (0,0))∧w.grownBy (w.setCell ⟨b,i,none⟩ v) (some b):=by
 have f:=(δ.1 h).1;refine⟨?_,rfl,rfl,rfl,by simp[World.setCell],λk _ g=>?_⟩
 ·unfold World.setCell;rw[T_,h];simp
 ·unfold World.setCell;rw[T_,B' (λe=>g (by have e:b=k:=e;rw[e]))]
def ae (h:w.heap[b]? = some (.cells cs t (0,0)))(i:Nat)(f:cs[i]? = some v):w.cell? ⟨b,i,none⟩=some v∧w.frozen? ⟨b,i,none⟩=false:=by
 refine⟨?_, ?_⟩
 ·unfold World.cell?;rw[h];exact f
 ·unfold World.frozen?;rw[h];simp
def bK {e n:Nat}{o:Obj}(h:w.ownsRow base e size v n xs)(l:w.grownBy w' (some r))(j:w.heap[r]? = some o)(f:∀g,o ≠ .cells g e (0,0)):w'.ownsRow base e size v n xs:=by
 refine h.kept l ?_;obtain e|e:=ownsRow_ne_a h j f
 ·exact .inl e
 ·exact .inr e
def bP {e n:Nat}(h:w.ownsRow base e size v n xs):∃A c,v = .slice A n c:=by
 rcases h.2 with⟨rfl,rfl⟩|⟨g,cap,f,rfl,_⟩
 ·exact⟨_,_,rfl⟩
 ·exact⟨_,_,rfl⟩
def dq {e n:Nat}(h:w.ownsRow base e size v n xs)(f:w.grownBy w' none):w'.ownsRow base e size v n xs :=
 h.kept f (by cases e:v.ownBlock with
  |none=>exact .inl rfl
  |some g=>exact .inr Ψ)
def iM {f e n:Nat}(h:w.ownsRow f e size v n xs)(r:base≤f):w.ownsRow base e size v n xs:=by
 refine⟨h.1, ?_⟩;obtain h|⟨g,cap,j,p,C,l⟩:=h.2
 ·exact .inl h
 ·exact .inr ⟨g,cap,j,p,Ω,l⟩
def rl {W j :World}(h:w.grownBy W none)(f:W.grownBy j (some r))(l:w.heap.size≤r):w.grownBy j none :=
 ⟨f.os.trans h.os,f.tape.trans h.tape,f.output.trans h.output,Δ h.size f.size,λk g _=>(f.block k (f_ g h.size) (λe=>by injection e with e;omega)).trans (h.block k g Ψ)⟩
def cX {f:World}(h:w.grownBy w' (some r))(g:w'.grownBy f (some r)):w.grownBy f (some r) :=
 ⟨g.os.trans h.os,g.tape.trans h.tape,g.output.trans h.output,Δ h.size g.size,λk j e=>(g.block k (f_ j h.size) e).trans (h.block k j e)⟩
def aaA {a0 a1 a2 U T v0 v1 v2 v3 v4:Value}(h:w.heap[b]? = some (.cells #[a0,a1,a2,U,T] t (0,0))) :
  (((((w.setCell ⟨b,0,none⟩ v0).setCell ⟨b,1,none⟩ v1).setCell ⟨b,2,none⟩ v2).setCell ⟨b,3,none⟩ v3).setCell ⟨b,4,none⟩ v4).heap[b]? = some (.cells #[v0,v1,v2,v3,v4] t (0,0)) ∧
  w.grownBy (((((w.setCell ⟨b,0,none⟩ v0).setCell ⟨b,1,none⟩ v1).setCell ⟨b,2,none⟩ v2).setCell ⟨b,3,none⟩ v3).setCell ⟨b,4,none⟩ v4) (some b):=by
 obtain⟨p,R⟩:=cU h 0 v0;obtain⟨l,P⟩:=cU p 1 v1;obtain⟨j,J⟩:=cU l 2 v2;obtain⟨g,C⟩:=cU j 3 v3;obtain⟨f,r⟩:=cU g 4 v4;exact⟨by simpa using f,cX (cX (cX (cX R P) J) C) r⟩
set_option maxRecDepth 100000 in
set_option maxHeartbeats 1600000 in
def tm (st:Int)(pv qv wv:Value)(g:ByteArray)(ps p:List Int)(l:List WK)(w:World)(h1:ps.length≤1048576)(h2:p.length≤1048576)(h3:l.length≤1048576)(hp:iX w w.heap.size pv ps.length (intsI ps))(hq:iX w w.heap.size qv p.length (intsI p))(hw:iX w w.heap.size wv l.length (flW l)) :
  Calls prog 38 #[.agg #[.int .i64 st,pv,qv,.string g,wv]] w λe w'=>∃pv' qv' wv',e = .returned (.agg #[.int .i64 st,pv',qv',.string g,wv'])∧w.grownBy w' none ∧
   w'.ownsRow w.heap.size 3 1 pv' ps.length (intsI ps)∧w'.ownsRow w.heap.size 3 1 qv' p.length (intsI p)∧w'.ownsRow w.heap.size 44 6 wv' l.length (flW l):=by
 obtain⟨pA,pc,rfl,hpx⟩:=hp;have hp:iX w w.heap.size (.slice pA ps.length pc) ps.length (intsI ps):=⟨pA,pc,rfl,hpx⟩;obtain⟨qA,qc,rfl,hqx⟩:=hq;have hq:iX w w.heap.size (.slice qA p.length qc) p.length (intsI p):=⟨qA,qc,rfl,hqx⟩;obtain⟨wA,wc,rfl,hwx⟩:=hw;have hw:iX w w.heap.size (.slice wA l.length wc) l.length (flW l):=⟨wA,wc,rfl,hwx⟩;clear hpx hqx hwx
 go_enter func38,ntmps38
 go_upto_region 1 with fail
 have hA1:=(Below.heap_alloc (w.alloc (.cells #[.int .i64 st,.slice pA ps.length pc,.slice qA p.length qc,.string g,.slice wA l.length wc] 38)) (.cells #[.int .i64 0,.slice none 0 0,.slice none 0 0,.string { data :=#[] },.slice none 0 0] 38) w.heap.size Ψ).trans (World.alloc_heap_new w (.cells #[.int .i64 st,.slice pA ps.length pc,.slice qA p.length qc,.string g,.slice wA l.length wc] 38));have hA2:=World.alloc_heap_new (w.alloc (.cells #[.int .i64 st,.slice pA ps.length pc,.slice qA p.length qc,.string g,.slice wA l.length wc] 38)) (.cells #[.int .i64 0,.slice none 0 0,.slice none 0 0,.string { data :=#[] },.slice none 0 0] 38);rw[P_]at hA2;have hgA:w.grownBy ((w.alloc (.cells #[.int .i64 st,.slice pA ps.length pc,.slice qA p.length qc,.string g,.slice wA l.length wc] 38)).alloc (.cells #[.int .i64 0,.slice none 0 0,.slice none 0 0,.string { data :=#[] },.slice none 0 0] 38)) none:=(C' w (.cells #[.int .i64 st,.slice pA ps.length pc,.slice qA p.length qc,.string g,.slice wA l.length wc] 38) none).trans (C' (w.alloc (.cells #[.int .i64 st,.slice pA ps.length pc,.slice qA p.length qc,.string g,.slice wA l.length wc] 38)) (.cells #[.int .i64 0,.slice none 0 0,.slice none 0 0,.string { data :=#[] },.slice none 0 0] 38) none);have hsA:((w.alloc (.cells #[.int .i64 st,.slice pA ps.length pc,.slice qA p.length qc,.string g,.slice wA l.length wc] 38)).alloc (.cells #[.int .i64 0,.slice none 0 0,.slice none 0 0,.string { data :=#[] },.slice none 0 0] 38)).heap.size=w.heap.size+2:=by simp
 generalize (w.alloc (.cells #[.int .i64 st,.slice pA ps.length pc,.slice qA p.length qc,.string g,.slice wA l.length wc] 38)).alloc (.cells #[.int .i64 0,.slice none 0 0,.slice none 0 0,.string { data :=#[] },.slice none 0 0] 38)=Wa at hA1 hA2 hgA hsA⊢;have j:∀W,w.grownBy W none→Below w.heap.size w W:=λW hg=>(Below.refl _ w).grown hg (ζ _) λk e=>by cases e
 have hca:=(ae hA1 1 rfl).1
 go_upto_region 2 with(first
  |(go_at_call 35;refine(tu ps h1 Wa _ ((hp.keep (j Wa hgA)).mono Ω)).mono ?_;rintro e w1 ⟨v1,rfl,hr1,hg1⟩
    obtain⟨B1,c1,rfl⟩:=bP hr1;have hB1:=(hg1.block _ Ω Ψ).trans hA1;have hcb:=(ae hB1 1 rfl).1;have hfb:=(ae hB1 1 rfl).2)
  |go_in)
 have hS1:=cU hB1 1 (.slice B1 ps.length c1);simp at hS1;have hA2b:=(hS1.2.block _ (by have:=hg1.size;omega) Ψ).trans ((hg1.block _ Ω Ψ).trans hA2);have hr1b:=bK hr1 hS1.2 hB1 (λR e=>by cases e);have hsz1:=Δ hg1.size hS1.2.size;have C:w.grownBy (w1.setCell ⟨w.heap.size,1,none⟩ (.slice B1 ps.length c1)) none:=rl (hgA.trans hg1) hS1.2 (ζ _);obtain⟨hC1,_⟩:=hS1;generalize w1.setCell ⟨w.heap.size,1,none⟩ (.slice B1 ps.length c1)=Wb at hC1 hA2b hr1b C hsz1⊢;clear hA1 hA2 hgA hca hcb hfb hB1 hr1 hg1;have hca:=(ae hC1 2 rfl).1
 go_upto_region 3 with(first
  |(go_at_call 35;refine(tu p h2 Wb _ ((hq.keep (j Wb C)).mono C.size)).mono ?_;rintro e w2 ⟨v2,rfl,hr2,T⟩
    obtain⟨B2,c2,rfl⟩:=bP hr2;have hB2:=(T.block _ Ω Ψ).trans hC1;have hcb:=(ae hB2 2 rfl).1;have hfb:=(ae hB2 2 rfl).2)
  |go_in)
 have U:=cU hB2 2 (.slice B2 p.length c2);simp at U;have hA2c:=(U.2.block _ (by have:=T.size;omega) Ψ).trans ((T.block _ Ω Ψ).trans hA2b);have hr1c:=bK (dq hr1b T) U.2 hB2 (λR e=>by cases e);have hr2b:=bK hr2 U.2 hB2 (λR e=>by cases e);have hsz2:=Δ T.size U.2.size;have r:w.grownBy (w2.setCell ⟨w.heap.size,2,none⟩ (.slice B2 p.length c2)) none:=rl (C.trans T) U.2 (ζ _);obtain⟨hC2,_⟩:=U;generalize w2.setCell ⟨w.heap.size,2,none⟩ (.slice B2 p.length c2)=Wc at hC2 hA2c hr1c hr2b r hsz2⊢;clear hC1 hA2b hr1b hca hcb hfb hB2 hr2 T;have hca:=(ae hC2 4 rfl).1
 go_upto_region 4 with(first
  |(go_at_call 68;refine(Ng l h3 Wc _ ((hw.keep (j Wc r)).mono r.size)).mono ?_;rintro e w3 ⟨v3,rfl,hr3,J⟩
    obtain⟨B3,c3,rfl⟩:=bP hr3;have hB3:=(J.block _ Ω Ψ).trans hC2;have hcb:=(ae hB3 4 rfl).1;have hfb:=(ae hB3 4 rfl).2)
  |go_in)
 have P:=cU hB3 4 (.slice B3 l.length c3);simp at P;have f:=(P.2.block _ (by have:=J.size;omega) Ψ).trans ((J.block _ Ω Ψ).trans hA2c);have hr1d:=bK (dq hr1c J) P.2 hB3 (λR e=>by cases e);have hr2d:=bK (dq hr2b J) P.2 hB3 (λR e=>by cases e);have hr3d:=bK hr3 P.2 hB3 (λR e=>by cases e);have hgw3:w.grownBy (w3.setCell ⟨w.heap.size,4,none⟩ (.slice B3 l.length c3)) none:=rl (r.trans J) P.2 (ζ _);have hsz3:=Δ J.size P.2.size;obtain⟨hC3,_⟩:=P;generalize w3.setCell ⟨w.heap.size,4,none⟩ (.slice B3 l.length c3)=Wd at hC3 f hr1d hr2d hr3d hgw3 hsz3⊢;clear hC2 hA2c hr1c hr2b hca hcb hfb hB3 hr3 J;have k0:=(ae hC3 0 rfl).1;have k1:=(ae hC3 1 rfl).1;have k2:=(ae hC3 2 rfl).1;have k3:=(ae hC3 3 rfl).1;have k4:=(ae hC3 4 rfl).1;have f0:=(ae f 0 rfl).2;have f1:=(ae f 1 rfl).2;have f2:=(ae f 2 rfl).2;have f3:=(ae f 3 rfl).2;have f4:=(ae f 4 rfl).2;have o0:=(ae f 0 rfl).1;have o1:=(ae f 1 rfl).1;have o2:=(ae f 2 rfl).1;have o3:=(ae f 3 rfl).1;have o4:=(ae f 4 rfl).1
 go_wp2
 obtain⟨hE,hgE⟩:=aaA (v0 :=.int .i64 st) (v1 :=.slice B1 ps.length c1) (v2 :=.slice B2 p.length c2) (v3 :=.string g) (v4 :=.slice B3 l.length c3) f;have e1:=bK hr1d hgE f (λR e=>by cases e);have e2:=bK hr2d hgE f (λR e=>by cases e);have e3:=bK hr3d hgE f (λR e=>by cases e);refine alp (results_cell_row rfl _ _ (w.heap.size+1) _ _ _ _ rfl hE underlying38 rfl Φ) rfl ?_;exact⟨_,_,_,rfl,rl hgw3 hgE Ω,iM e1 Ω,iM e2 (by have:=C.size;omega),iM e3 (by have:=r.size;omega)⟩
end Abs
namespace Abs
open Go Go.Proofs Go.RowKit Go.Maps Go.Shelf Tryz
structure CF where
 st:Int
 ps:List Int
 qs:List Int
 nt:ByteArray
 wl:List WK
def ajF (w:World)(B b f:Nat)(c:CF):Prop :=
 ∃pv j g,w.cell? ⟨b,f,none⟩=some (.int .i64 c.st)∧w.cell? ⟨b,f+1,none⟩=some pv∧w.cell? ⟨b,f+2,none⟩=some j∧w.cell? ⟨b,f+3,none⟩=some (.string c.nt)∧w.cell? ⟨b,f+4,none⟩=some g ∧
  iX w B pv c.ps.length (intsI c.ps)∧iX w B j c.qs.length (intsI c.qs)∧iX w B g c.wl.length (flW c.wl)
def agR (w:World)(B:Nat)(A:Option Addr)(g:List CF):Prop:=0<g.length→∃b f,A=some ⟨b,f,none⟩∧b<B∧∀k (h:k<g.length),ajF w B b (f+k*5) g[k]
def ab6:∀(l:List WK) (j:Nat) (h:j<l.length) (i:Nat),i<6→(flW l)[j*6+i]? = (tw l[j])[i]?
 |x::l,0,_,i,hi=>by simp[flW];exact Θ hi
 |x::l,j+1,h,i,hi=>by have:=ab6 l j (by simpa using h) i hi;simp[flW]at this⊢;rw[←this,T' (by simp[tw];omega)];congr 1;simp[tw];omega
def NQ {w:World}{B n c:Nat}{A:Option Addr}{l:List WK}(h:iX w B (.slice A n c) l.length (flW l))(j:Nat)(J:j<l.length):∃p r,A=some ⟨p,r,none⟩∧p<B∧agi w p (r+j*6) l[j]:=by
 obtain⟨U,T,e,_,R⟩:=h;cases e;obtain⟨p,r,e,C,f⟩:=R Ω;have g:=λi (P:i<6)=>ab6 l j J i P;refine⟨p,r,e,C, ?_, ?_, ?_, ?_, ?_, ?_⟩
 ·exact f (j*6) _ (by rw[←Nat.add_zero (j*6),g 0 Ϛ];rfl)
 ·rw[A_];exact f (j*6+1) _ (by rw[g 1 Ϛ];rfl)
 ·rw[A_];exact f (j*6+2) _ (by rw[g 2 Ϛ];rfl)
 ·rw[A_];exact f (j*6+3) _ (by rw[g 3 Ϛ];rfl)
 ·rw[A_];exact f (j*6+4) _ (by rw[g 4 Ϛ];rfl)
 ·rw[A_];exact f (j*6+5) _ (by rw[g 5 Ϛ];rfl)
end Abs
namespace Abs
open Go Go.Proofs Go.RowKit Go.Maps Go.Shelf Tryz
def aeh (l:List Int):List Int:=Lib.compact (l.mergeSort λx y=>decide (x≤y))
end Abs
namespace Abs
open Go Go.Proofs Go.RowKit Go.Maps Go.Shelf Tryz
structure PF where
 c:CF
 left:Nat
def cN (W:World)(B T:Nat)(x:PF)(l:List Value):Prop :=
 ∃pv j f,l=[.int .i64 x.c.st,pv,j,.string x.c.nt,f,.int .i64 x.left]∧W.ownsRow B 3 1 pv x.c.ps.length (intsI x.c.ps)∧W.ownsRow B 3 1 j x.c.qs.length (intsI x.c.qs)∧W.ownsRow B 44 6 f x.c.wl.length (flW x.c.wl) ∧
  ∀g,(pv.ownBlock=some g∨j.ownBlock=some g∨f.ownBlock=some g)→g<T
variable{W:World}{x:PF}{vs:List Value}
def cN.old {C :World}{B T:Nat}{row:Option Nat}(h:cN W B T x vs)(j:W.grownBy C row)(P:∀r,row=some r→T≤r):cN C B T x vs:=by
 obtain⟨pv,p,l,rfl,h1,U,R,f⟩:=h;have k:∀v:Value,(∀g,v.ownBlock=some g→g<T)→v.ownBlock=none∨v.ownBlock≠row:=λv J=>by
  cases e:v.ownBlock with
  |none=>exact .inl rfl
  |some g=>
   have:=J g e;exact .inr λe'=>by have:=P g e'.symm;omega
 exact⟨pv,p,l,rfl,h1.kept j (k pv λg e=>f g (.inl e)),U.kept j (k p λg e=>f g (.inr (.inl e))),R.kept j (k l λg e=>f g (.inr (.inr e))),f⟩
def cN.stays {C :World}{B T:Nat}{r:Nat}{o:Obj}(h:cN W B T x vs)(j:W.grownBy C (some r))(g:W.heap[r]? = some o)(p:∀f,o ≠ .cells f 3 (0,0))(l:∀f,o ≠ .cells f 44 (0,0)):cN C B T x vs:=by obtain⟨pv,P,J,rfl,k1,k2,U,R⟩:=h;exact⟨pv,P,J,rfl,bK k1 j g p,bK k2 j g p,bK U j g l,R⟩
def cN.mono {B T f:Nat}(h:cN W B T x vs)(r:T≤f):cN W B f x vs:=by obtain⟨pv,l,j,rfl,R,P,J,C⟩:=h;exact⟨pv,l,j,rfl,R,P,J,λg p=>f_ (C g p) r⟩
def fG (W:World)(B T:Nat):List PF→List (List Value)→Prop
 |[],[]=>True
 |x::l,v::vs=>cN W B T x v∧fG W B T l vs
 |_,_=>False
def fG.all {W g:World}{B p T j:Nat}(h:∀x v,cN W B T x v→cN g p j x v):∀{l:List PF} {vs:List (List Value)},fG W B T l vs→fG g p j l vs
 |[],[],_=>trivial
 |_::_,_::_,f=>⟨h _ _ f.1,fG.all h f.2⟩
 |[],_::_,f=>f.elim
 |_::_,[],f=>f.elim
def fG.push {W:World}{B T:Nat}{x:PF}{v:List Value}(g:cN W B T x v):∀{l:List PF} {vs:List (List Value)},fG W B T l vs→fG W B T (l++[x]) (vs++[v])
 |[],[],_=>⟨g,aoG⟩
 |_::_,_::_,f=>⟨f.1,fG.push g f.2⟩
 |[],_::_,f=>f.elim
 |_::_,[],f=>f.elim
def sx {w:World}{f e size n g:Nat}{v:Value}{p:List Value}(h:w.ownsRow f e size v n p)(l:v.ownBlock=some g):f≤g∧∃j,w.heap[g]? = some (.cells j e (0,0)):=by
 rcases h.2 with⟨rfl,_⟩|⟨J,cap,j,rfl,C,r,_⟩
 ·cases l
 ·injection l with l;obtain rfl:J=g:=l;exact⟨C,j,r⟩
end Abs
namespace Abs
open Go Go.Proofs Go.RowKit Go.Maps Go.Shelf Tryz
def cN.lo {W:World}{B g T:Nat}{x:PF}{vs:List Value}(h:cN W g T x vs)(f:B≤g):cN W B T x vs:=by obtain⟨pv,l,j,rfl,J,C,r,p⟩:=h;exact⟨pv,l,j,rfl,iM J f,iM C f,iM r f,p⟩
def Vj {w:World}{b:Nat}{r p v0 v1:Value}{t:TypeId}(h:w.heap[b]? = some (.cells #[r,p] t (0,0))) :
  ((w.setCell ⟨b,0,none⟩ v0).setCell ⟨b,1,none⟩ v1).heap[b]? = some (.cells #[v0,v1] t (0,0))∧w.grownBy ((w.setCell ⟨b,0,none⟩ v0).setCell ⟨b,1,none⟩ v1) (some b):=by
 obtain⟨g,l⟩:=cU h 0 v0;obtain⟨f,j⟩:=cU g 1 v1;exact⟨by simpa using f,cX l j⟩
end Abs
namespace Abs
open Go Go.Proofs Go.RowKit Go.Maps Go.Shelf Tryz
def aiR (f:List Int)(all:List WK)(x:WK):Bool:=abL (λx=>f.contains x) (GM all) (GZ (λx=>f.contains x) all) x
def agC:(prog.info? 54).map (λi=>(i.zero,i.size,i.bytes))=some (some (.agg #[.int .i64 0,.slice none 0 0,.slice none 0 0,.string ByteArray.empty,.slice none 0 0,.int .i64 0]),6,104):=Φ
def Z8:prog.underlying 29=some (.slice 54):=Φ
end Abs
