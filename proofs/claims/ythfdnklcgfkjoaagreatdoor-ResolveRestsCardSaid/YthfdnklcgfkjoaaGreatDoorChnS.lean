/- Every contract of the states' layer. -/
import Derived.Test.YthfdnklcgfkjoaaGreatDoorCrdC
import Derived.Deep.AppendSrc
import Derived.BigQuiet
import Derived.Room.Entries
import Derived.WalkSpells
import Derived.Test.YthfdnklcgfkjoaaGreatDoorMeetS
set_option linter.all false
namespace Go.Proofs.YthfdnklcgfkjoaaGreatDoor.Abs
open Go Go.Proofs Go.RowKit Tryz
def aiJ:∃i z,prog.info? 72=some i∧i.zero=some z∧i.size=5∧i.bytes=48∧z.cells.size=5:=by
 have h:((prog.info? 72).bind λi=>i.zero.bind λz=>if i.size=5∧i.bytes=48∧z.cells.size=5 then some ()else none)=some ():=Φ
 obtain⟨i,g,h⟩:=l?.1 h;obtain⟨z,f,h⟩:=l?.1 h;split at h
 next q=>exact⟨i,z,g,f,q.1,q.2.1,q.2.2⟩
 ·cases h
def aiL:∃i z,prog.info? 58=some i∧i.zero=some z∧i.size=6∧i.bytes=56∧z.cells.size=6:=by
 have h:((prog.info? 58).bind λi=>i.zero.bind λz=>if i.size=6∧i.bytes=56∧z.cells.size=6 then some ()else none)=some ():=Φ
 obtain⟨i,g,h⟩:=l?.1 h;obtain⟨z,f,h⟩:=l?.1 h;split at h
 next q=>exact⟨i,z,g,f,q.1,q.2.1,q.2.2⟩
 ·cases h
variable{w:World}{St:Sb}
def Ik (r:∀b o,St b o→b<w.heap.size){t:Ty}{l:List t.den}{v:Value}(h:Rep w St (toD (.slice t) l) [v]):∃A c p,v = .slice A l.length c∧l.length≤c∧Rep w St (chain (toD t) l) p∧(l.length=0∨∃g:Addr,A=some g∧g.spot=none∧∀j u,p[j]? = some u→w.cell? (g.add j)=some u∧g.block<w.heap.size):=by
 obtain⟨A,c,e,J,h⟩:=dI h;injection e with e;obtain h|⟨g,p,T,P,R,f⟩:=h
 ·have:l=[]:=K' h;exact⟨A,c,[],e,J,by rw[this];rfl,.inl h⟩
 ·exact⟨A,c,p,e,J,R,.inr ⟨g,T,P,λj u C=>⟨(f j u C).1,r _ _ (f j u C).2⟩⟩⟩
def V0 {g:Type}(l:List g){p:Prop}(h:l.length=0∨p):l.length=0∨(0<l.length∧p):=by
 obtain f|f:=Nat.eq_zero_or_pos l.length
 ·exact .inl f
 ·obtain h|h:=h
  ·omega
  ·exact .inr ⟨f,h⟩
def Xl {t:Ty}{x:t.den}{f:List Value}(h:RepVs w St [⟨t,x⟩] f):∃v,f=[v]∧RepV w St t x v:=by
 cases f with
 |nil=>exact h.elim
 |cons v r=>
  cases r with
  |nil=>exact⟨v,rfl,h.1⟩
  |cons _ _=>exact h.2.elim
def V5:Callable prog 100:=⟨_,func100,rfl,Φ⟩
def SR:Callable prog 60:=⟨_,func60,rfl,Φ⟩
set_option maxHeartbeats 4000000 in
set_option maxRecDepth 1000000 in
def afv (l:List Cel)(h:l.length≤1048576):MeetsD prog 100 [⟨.slice aa,l⟩] (.val (.slice aa) l):=by
 refine⟨V5,λw St g vs J=>?_⟩;obtain⟨v,rfl,P⟩:=Xl J;have P:Rep w St (toD (.slice aa) l) [v]:=P;obtain⟨A,c,ds,rfl,hc,T,hA⟩:=Ik g P;obtain⟨C,p,hi,hz,hs,hy,hcs⟩:=aiL;have U:ds.length=l.length*6:=ba T;have q31:∀(w:World) (a:Option Addr) (n c r c':Nat),(binOp .eql 31 (.slice a n c) (.slice none r c')).run prog w = .ok (.bool a.isNone) w:=λw a n c r c'=>Lib.run_eql_slice_nil w _ _ a n c r c' underlying31;cases A with
 |none=>
  have hl:l=[]:=by
   obtain h|⟨_,e,_⟩:=hA
   ·exact K' h
   ·cases e
  subst hl
  go_enter func100,ntmps100
  go_wp2
  go_ret
  exact Aa (Below.refl _ _) (δ _) (t :=.slice aa) ⟨none,0,0,rfl,rfl,δ _,.inl rfl⟩
 |some ad=>
  go_enter func100,ntmps100
  go_wp2_with (first|(at_builtin;refine cR _ rfl (.tmp 5) (.tmp 6) 31 rfl w.heap.size 58 C p 6 56 underlying31 hi hz hs hy hcs Ϛ (.slice (some ⟨w.heap.size,0,none⟩) 0 0) 0 [] rfl ?o1 _ l.length _ ds rfl U ?o2 ?o3 ?o4 ?o5 ?o6 ?_))
  case o1=>exact asb _ #[] 0 (δ _) (s_ _) rfl
  case o2=>
   obtain h|⟨_,e,hsp,f⟩:=hA
   ·exact .inl h
   ·cases e;exact .inr ⟨_,rfl,λj u R=>(O' w _ none).cell (f j u R).1 Ψ⟩
  case o3=>exact λu R=>T.one u R
  case o4=>unfold maxLen;omega
  case o5=>omega
  case o6=>simp
  intro v2 w2 h2 g2 a2 d2
  go_wp2
  go_ret
  have hb:Below w.heap.size w w2:=((Below.refl _ w).alloc (δ _) _).grown g2 Ψ (λk e=>by simp[Value.ownBlock]at e;omega);have h3:w2.ownsRow w.heap.size 58 6 v2 l.length ds:=by simpa using h2
  exact Gy (τ:=aa) hb d2 h3 (Ku g hb T)
def x6 {P:Program}(w:World){p:Array Oper}{aQ:List Oper}{o:Oper}{a:Act}{Q:Exit→Act→World→Prop}(hgd:o.guard=none)(s x:Operand)(t:TypeId)
  (ho:o.op = .call { callee :=.builtin .append,args :=#[s,x],argTypes :=#[t,t] }) (e:TypeId) (i:TypeInfo) (z:Value) (size bytes:Nat) (ht:P.underlying t=some (.slice e)) (hi:P.info? e=some i) (hz:i.zero=some z)
  (l:i.size=size) (hby:i.bytes=bytes) (T:z.cells.size=size) (C:Addr) (hs:a.eval s = .slice (some C) 0 0)
  (ad:Addr) (m c:Nat) (f:List Value) (hx:a.eval x = .slice (some ad) m c) (R:f.length=m*size) (hA:∀j u,f[j]? = some u→w.cell? (ad.add j)=some u) (h1:∀u∈f,u.oneCell'=true) (hm:0<m)
  (r:m≤maxLen) (g:m*bytes≤140737488355328)
  (h:∀v' J,J.ownsRow w.heap.size e size v' m f→w.grownBy J none→w.drawn≤J.drawn→wpList P p Q aQ (a.put o.dst v') J):wpList P p Q (o::aQ) a w :=
 wpList_plain hgd λ_ hK=>by
  subst l hby;have hr:=atj (P:=P) w t o.type e i z ht hi hz C 0 0 [] Ψ (λj u h=>by simp at h) ad m c f R hA Ω (by unfold maxLen at r;omega) (asM Ω (by rw[I'];exact g));simp at hr;unfold Oper.wp execOp;simp[ho,resolve,invoke,builtin,ν,Z',hs,hx,hr];refine hK _ _ (h _ _ ?_ ?_ ?_)
  ·have U:=atg w m 0 e;have hcm:grownCap w m 0 e≤maxLen:=grownCap_le_maxLen w m 0 e r;refine⟨R,.inr ⟨w.heap.size,_,_,rfl,δ _,B_ w.drew _,U,hcm, ?_, ?_⟩⟩
   ·simp[atq,T,R,←Nat.add_mul];congr 1;omega
   ·simp;rw[←R];exact o?
  ·exact cV (gQ _) (O' _ _ none)
  ·exact j? _
set_option maxHeartbeats 4000000 in
set_option maxRecDepth 1000000 in
def afe (l:List Alt)(h:l.length≤1048576):MeetsD prog 60 [⟨.slice aM,l⟩] (.val (.slice aM) l):=by
 refine⟨SR,λw St g vs J=>?_⟩;obtain⟨v,rfl,P⟩:=Xl J;have P:Rep w St (toD (.slice aM) l) [v]:=P;obtain⟨A,c,ds,rfl,hc,T,hA⟩:=Ik g P;obtain⟨C,r,hi,hz,hs,hy,hcs⟩:=aiJ;have U:ds.length=l.length*5:=ba T;obtain p|⟨p,ad,rfl,hsp,f⟩:=V0 l hA
 ·have hl:l=[]:=K' p;subst hl;have hci:(0:Int)≤(c:Int):=Ω
  cases A with
  |none=>
   go_enter func60,ntmps60
   go_wp2
   go_ret
   exact Aa (Below.refl _ _) (δ _) (t :=.slice aM) ⟨none,0,0,rfl,rfl,δ _,.inl rfl⟩
  |some ad=>
   go_enter func60,ntmps60
   go_wp2
   go_ret
   exact Aa (Below.refl _ _) (δ _) (t :=.slice aM) ⟨some ad,0,0,rfl,rfl,δ _,.inl rfl⟩
 ·have p:0<l.length:=p;have hci:(0:Int)≤(c:Int):=Ω
  go_enter func60,ntmps60
  go_wp2_with (first|(at_builtin;refine x6 _ rfl (.tmp 4) (.tmp 5) 64 rfl 72 C r 5 48 underlying64 hi hz hs hy hcs _ rfl _ _ _ ds rfl U (λj u R=>(f j u R).1) (λu R=>T.one u R) Ω ?o1 ?o2 ?_))
  case o1=>unfold maxLen;omega
  case o2=>omega
  intro v2 w2 h2 g2 d2
  go_wp2
  go_ret
  have hb:Below w.heap.size w w2:=(Below.refl _ w).grown g2 (δ _) (λk e=>by cases e);exact Gy (τ:=aM) hb d2 h2 (Ku g hb T)
open Go Tryz
def ZR:am prog 55 wo:=Q3 trivial
def wt:am prog 57 jg:=Q6 trivial
def It:am prog 56 u4:=V4 ⟨afo,alk,awN⟩ Oq
def akx:am prog 104 Ov:=abg ⟨wt,It,awN⟩ λx t=>⟨0,aft 0 x t⟩
def Yi:am prog 102 ET:=abf ⟨wt,It,awN⟩ λx y=>⟨0,afn 0 x y⟩
def aoK:am prog 103 af4:=akW ⟨akx,awN⟩ abp
def ajY:am prog 59 N3:=aaS ⟨aoK,awN⟩ R9
def amY:am prog 140 Vq:=ad5 ⟨Yi,awN⟩ Vn
def ab6:∀d,am prog 186 (Mt d)
 |0=>WK λl a m b h=>by simp[ye]at h;omega
 |d+1=>ab8 d ⟨Yi,ab6 d,awN⟩ (TL d)
def agV:am prog 138 My:=Zc ⟨amY,ab6 _,awN⟩ PI
def alP:am prog 101 TS:=acv ⟨agV,awN⟩ TR
def afu:am prog 100 SY:=d7 λx h=>afv x (f_ h)
def aa8:am prog 60 LI:=d7 λx h=>afe x (f_ h)
def Tu:am prog 58 xX:=L9 trivial E8
