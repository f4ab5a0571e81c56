/- Calls by contract. -/
import Derived.Test.YtfgpipfjalmooaaGreatAbsJ
import Derived.Laws.MakeOwn
import Derived.Laws.BytesString
set_option linter.all false
namespace Go.Proofs.YtfgpipfjalmooaaGreat
namespace Abs
open Go Go.RowKit
section
variable {P:Program}{tab:Tab}{B:Bd}{U:World}{J:Sb}{c:Gh}{o:Oper}{a:Act}
variable{k v lo hi i off size n cap fresh:Nat}{s:Value}{τ:Ty}{e t:TypeId}{x:Operand}{w:World}{St:Sb}{u:AV}{A:Option Addr}{cl:Call}
def fX {l:List τ.den}(h:RA c (.msl k v lo hi) [s])(g:c.heap[k]? = some (.mrow τ e v l)):tN (c.rv k) τ.size lo hi s:=by
 obtain⟨C,p,_,m⟩:=h;cases p;rcases m with⟨t,P,r,J,f,_,j⟩|f
 ·rw[g]at f;injection f with f;injection f with q1 q2 q3 q4;subst q1;exact j q3.symm
 ·rw[g]at f;cases f
def Gv {l:List τ.den}(h:RA c (.mpt k v i off) [s])(g:c.heap[k]? = some (.mrow τ e v l)):ptS (c.rv k) τ.size i off s:=by
 obtain⟨C,p,_,m⟩:=h;cases p;rcases m with⟨t,P,r,J,f,_,j⟩|f
 ·rw[g]at f;injection f with f;injection f with q1 q2 q3 q4;subst q1;exact j q3.symm
 ·rw[g]at f;cases f
def Z6 {r:Value}(h:tN r size lo hi s):s.oneCell'=true:=by rcases h with⟨_,_,_,rfl⟩|⟨_,_,_,_,_,_,_,rfl,_⟩ <;> rfl
def yh {l:List τ.den}(f:c.heap[k]? = some (.mrow τ e v l))(h:tN (c.rv k) τ.size lo hi s):RA c (.msl k v lo hi) [s] :=
 ⟨s,rfl,Z6 h,.inl ⟨τ,e,v,l,f,ζ _,λ_=>h⟩⟩
def aaH {l:List τ.den}(f:c.heap[k]? = some (.mrow τ e v l))(h:ptS (c.rv k) τ.size i off s):RA c (.mpt k v i off) [s] :=
 ⟨s,rfl,by obtain⟨_,_,_,_,_,rfl⟩:=h;rfl,.inl ⟨τ,e,v,l,f,ζ _,λ_=>h⟩⟩
def jc {l:List τ.den}(hi:Inv B U J c)(hk:c.heap[k]? = some (.mrow τ e v l)){g:Nat}(C:c.rv k = .slice (some ⟨g,0,none⟩) n cap) :
  n=l.length∧∃f r,c.w.heap[g]? = some (.cells f e (0,0))∧n≤cap∧cap≤maxLen∧f.size=cap*τ.size∧f.toList.take (n*τ.size)=r∧Rep c.w c.St (chain (toD τ) l) r∧(∀o,¬c.St g o)∧B≤g:=by
 obtain⟨r,T,j,P⟩:=hi.mrow k τ e v l hk;rcases T.2 with⟨p,_⟩|⟨g',R,f,p,h2,h3,h4,h5,h6,h7⟩
 ·rw[C]at p;cases p
 ·rw[C]at p;injection p with q1 q2 q3;cases q1;subst q2;subst q3;exact⟨rfl,f,r,h3,h4,h5,h6,h7,j,P g (by rw[C];rfl),h2⟩
def ST (hi:Inv B U J c)(R:TabOk P tab){y:Operand}(ho:o.op = .indexAddr t x y){j :Nat}{q:IntKind}{n:Int}{l:List τ.den}(hx:RA c (.msl k v lo j) [a.eval x])(hy:RA c (.val (.int q) n) [a.eval y])
  (C:c.heap[k]? = some (.mrow τ e v l)) (ht:tab.ty t=some (.slice τ)) (h0:0≤n) (h1:n<((j-lo:Nat):Int)):Ok P B U J o a c c.heap (.mpt k v (lo+n.toNat) 0):=by
 obtain⟨i,z,_,_,_,_,_,_,hu⟩:=R.ty t _ ht;obtain⟨e',he,r,hel',hpos⟩:=hu;rcases fX hx C with⟨_,h2,h3,_⟩|⟨g,m,cap,A,T,hle,hm,hs,f⟩
 ·omega
 ·obtain⟨rfl,cur,xs,_,hnc,_⟩:=jc hi C T;have f:A=some ⟨g,lo*τ.size,none⟩:=by
   obtain f|f:=f
   ·exact f
   ·omega
  subst f;refine aA hi (v :=.pointer (some ((⟨g,lo*τ.size,none⟩:Addr).add (n.toNat*τ.size)))) ?_ (aaH C ⟨g,_,cap,T,Ω, ?_⟩)
  ·have p:=eC hy.val_inv;unfold execOp;simp[ho,hs,p];simp[Instr.indexAt,asIntOf,θ he,h0,h1,aH R r]
  ·rw[du,Y_];rfl
def SU (hi:Inv B U J c)(C:TabOk P tab){s:TypeId}{f:Nat}(ho:o.op = .fieldAddr s x f){d:Nat}{l:List τ.den}(R:RA c (.mpt k v i off) [a.eval x])
  (r:c.heap[k]? = some (.mrow τ e v l)) (hd:tab.offs s f=some d):Ok P B U J o a c c.heap (.mpt k v i (off+d)):=by
 obtain⟨g,n,cap,T,p,hp⟩:=Gv R r;obtain⟨fs,fl,j,h1,h2,h3,h4,h5⟩:=C.offs s f d hd;refine aA hi (v :=.pointer (some ⟨g,i*τ.size+(off+d),none⟩)) ?_ (aaH r ⟨g,n,cap,T,p,rfl⟩);unfold execOp;have hj:¬j.size=0:=Ω
 simp[ho,hp,Instr.fieldAt,θ h1,h2,Instr.sureAddr,fieldPlace,sizeOf,typeInfo,h4,hj,du,h3,G_]
def Xc:∀{t:Ty} {x:t.den} {off:Nat} {y:τ.den} {l:List Value},xw τ t x off=some y→Rep w St (toD t x) l→off+τ.size≤l.length∧Rep w St (toD τ y) ((l.drop off).take τ.size):=by
 intro t;induction t with
 |cons A R j p=>
  intro x off y l h r;cases off with
  |zero=>
   unfold xw at h;split at h
   next y' f=>obtain⟨e,f⟩:=cast?_some f;subst e;subst f;cases h;have:=r.size;refine⟨Ω, ?_⟩;rw[akk,←this,S_];exact r
   ·obtain⟨c1,c2,rfl,r1,C⟩:=r;obtain⟨J,g⟩:=j h r1;refine⟨by simp;omega, ?_⟩;rw[akk]at g⊢;rw[akK Ω];exact g
  |succ n=>
   simp[xw]at h;obtain⟨c1,c2,rfl,r1,C⟩:=r;have P:=r1.size;split at h
   next hlt=>obtain⟨J,g⟩:=j h r1;refine⟨by simp;omega, ?_⟩;rw[akL Ω,akK Ξ];exact g
   next hlt=>obtain⟨J,g⟩:=p h C;refine⟨by simp;omega, ?_⟩;rw[List.drop_append,alb Ω,t_,P];exact g
 |_=>
  intro x off y l h r;cases off with
  |zero=>
   unfold xw at h;split at h
   next y' f=>obtain⟨e,f⟩:=cast?_some f;subst e;subst f;cases h;have:=r.size;refine⟨Ω, ?_⟩;rw[akk,←this,S_];exact r
   ·cases h
  |succ n=>simp[xw]at h
def Xr {y:τ.den}{j:List Value}(T:Rep w St (toD τ y) j):∀{t:Ty} {x z:t.den} {off:Nat} {g:List Value},xA τ y t x off=some z→Rep w St (toD t x) g →
  off+j.length≤g.length∧Rep w St (toD t z) (g.take off++j++g.drop (off+j.length)):=by
 have C:=T.size;intro t;induction t with
 |cons A Bt l R=>
  intro x z off g h r;cases off with
  |zero=>
   unfold xA at h;split at h
   next y' f=>obtain⟨e,f⟩:=cast?_some f;subst e;subst f;cases h;have:=r.size;refine⟨Ω, ?_⟩;rw[v?,t_,b_,C,←this,List.drop_length,i?];exact T
   ·simp only at h;split at h
    next z' p=>cases h;obtain⟨c1,c2,rfl,r1,P⟩:=r;obtain⟨h1,J⟩:=l p r1;refine⟨by simp;omega,_,c2, ?_,J,P⟩;simp only[v?,t_,b_]at *;rw[akL Ω,D_]
    ·cases h
  |succ n=>
   simp[xA]at h;obtain⟨c1,c2,rfl,r1,P⟩:=r;have hs:=r1.size;split at h
   ·rename_i U;split at h
    next z' p=>cases h;obtain⟨h1,J⟩:=l p r1;refine⟨by simp;omega,_,c2, ?_,J,P⟩;rw[akK Ω,akL Ω];simp
    ·cases h
   ·rename_i U;split at h
    ·rename_i z' p;cases h;obtain⟨h1,J⟩:=R p P;refine⟨by simp;omega,c1,_, ?_,r1,J⟩;rw[List.take_append,List.drop_append,J_ Ω,alb Ω,t_,hs,D_,D_,D_,
      show n+1+j.length-A.size=n+1-A.size+j.length by omega]
    ·cases h
 |_=>
  intro x z off g h r;cases off with
  |zero=>
   unfold xA at h;split at h
   next y' f=>obtain⟨e,f⟩:=cast?_some f;subst e;subst f;cases h;have:=r.size;refine⟨Ω, ?_⟩;rw[v?,t_,b_,C,←this,List.drop_length,i?];exact T
   ·cases h
  |succ n=>simp[xA]at h
def Kr {w:World}{St:Sb}{t:Ty}:∀{l:List t.den} {f:List Value} {i:Nat} {z:t.den} {g:List Value},Rep w St (chain (toD t) l) f→i<l.length→Rep w St (toD t z) g →
  Rep w St (chain (toD t) (l.set i z)) (f.take (i*t.size)++g++f.drop (i*t.size+t.size))
 |x::l,f,0,z,g,h,_,p=>by obtain⟨c1,c2,rfl,j,C⟩:=h;have r:=j.size;refine⟨g,c2, ?_,p,C⟩;rw[akB,v?,t_,b_,←r,akW]
 |x::l,f,i+1,z,g,h,hi,p=>by obtain⟨c1,c2,rfl,j,C⟩:=h;have r:=j.size;have:=Kr C (by simpa using hi) p;refine⟨c1,_, ?_,j,this⟩;rw[show(i+1)*t.size=c1.length+i*t.size by rw[Y_,r];omega,G_,akT,a?,D_,D_,D_]
def Ql {f:Type}{l:List f}{d:f}(h:i<l.length):l.getD i d=l[i]:=by simp[List.getD,ε h]
def XT (hi:Inv B U J c)(tk:TabOk P tab)(ho:o.op = .load t x){f :Ty}{l:List τ.den}{y:f.den}(hx:RA c (.mpt k v i off) [a.eval x])
  (hk:c.heap[k]? = some (.mrow τ e v l)) (ht:tab.ty t=some f) (hy:xw f τ (l.getD i (zero τ)) off=some y):Ok P B U J o a c c.heap (.val f y):=by
 obtain⟨g,n,cap,hr,hin,hp⟩:=Gv hx hk;obtain⟨rfl,cur,xs,hg,hnc,_,hcs,htk,C,_⟩:=jc hi hk hr;have he:=uX C i hin;rw[Ql hin]at hy;obtain⟨hle,r⟩:=Xc hy he;have hxl:=bJ C;have hlen2:((xs.drop (i*τ.size)).take τ.size).length≤τ.size:=by simp;omega
 have R:∀j u,((((xs.drop (i*τ.size)).take τ.size).drop off).take f.size)[j]? = some u→c.w.cell? ((⟨g,i*τ.size+off,none⟩:Addr).add j)=some u:=by
  intro j u p;rw[Y']at p;split at p
  next hj=>
   rw[q_,Y']at p;split at p
   ·rw[q_,←htk,Y']at p;split at p
    ·rw[du];simp[World.cell?,hg];simpa[G_]using p
    ·cases p
   ·cases p
  ·cases p
 obtain⟨v',hrun,T⟩:=cA tk ht c.w ⟨g,i*τ.size+off,none⟩ _ r.size R;refine aA hi (v:=v') ?_ ⟨v',rfl,fV r T⟩;unfold execOp;simp[ho,hp,Instr.loadAt,Instr.sureAddr,hrun]
def Lc (w:World)(g:Nat)(j:Array Value):w.grownBy (w.setRow g j) (some g) :=
 ⟨rfl,rfl,rfl,by simp[World.setRow],λb _ f=>akP _ _ _ _ (λe=>f (by rw[e]))⟩
def ZS (hi:Inv B U J c){l l2:List τ.den}(hk:c.heap[k]? = some (.mrow τ e v l)){g:Nat}(C:c.rv k = .slice (some ⟨g,0,none⟩) n cap){cur:Array Value}
  (hg:c.w.heap[g]? = some (.cells cur e (0,0))) (hl:l2.length=l.length) {f:Array Value} (ha:f.size=cur.size) (r:Rep c.w c.St (chain (toD τ) l2) (f.toList.take (n*τ.size))) :
  let c':Gh:={ c with heap:=c.heap.set k (.mrow τ e v l2),w:=c.w.setRow g f,St:=c.St,rv:=λi=>if i=k then c.rv k else c.rv i }
  Inv B U J c'∧Ev c c':=by
 obtain⟨hn,cur',xs,T,hnc,hcm,hcs,htk,hrp,R,hB⟩:=jc hi hk C;rw[hg]at T;cases T;have P:obk c k=some g:=by unfold obk;rw[hk,C];rfl
 have j:∀(p:Addr) u,c.St p.block p.off→p.spot=none→c.w.cell? p=some u→(c.w.setRow g f).cell? p=some u:=λp u hst _ hc=>by have:p.block≠g:=λe=>R p.off (e ▸ hst);exact(akh (akP _ _ _ _ this)).trans hc
 refine hi.obj (ar hk) (by rw[P];exact Lc _ _ _) (ζ _) (Sb.le.refl _) (λ_ _ _ _ x=>x) (λ_ _ x=>.inl x) j (.inr ⟨τ,e,v,l,hk,.inl ⟨v,l2,rfl,ζ _,λ_=>rfl⟩⟩)
  (.inr ⟨τ,e,v,l2,rfl,.inr (.inl (by rw[P,C];rfl)),f.toList.take (n*τ.size),⟨?_,.inr ⟨g,cap,f, ?_,hB,ale _ _ _ _ _ _ hg,Ω,hcm,by rw[ha,hcs],by rw[hl,←hn]⟩⟩,r.mono (Sb.le.refl _) j,λb hb o=>?_⟩)
 ·have h1:n*τ.size≤f.toList.length:=by rw[C',ha,hcs];exact r_ _ hnc
  rw[p_,W? h1,hl,←hn]
 ·rw[C,hl,←hn]
 ·rw[C]at hb;simp only[Value.ownBlock,ι]at hb;rw[←hb];exact R o
def SR (hi:Inv B U J c)(tk:TabOk P tab){y:Operand}(ho:o.op = .store t x y){r :Ty}{l:List τ.den}{d:r.den}{z:τ.den}(hx:RA c (.mpt k v i off) [a.eval x])(hy:RA c u [a.eval y])
  (hk:c.heap[k]? = some (.mrow τ e v l)) (ht:tab.ty t=some r) (hd:dat? r u=some d) (hz:xA r d τ (l.getD i (zero τ)) off=some z):Ok P B U J o a c (c.heap.set k (.mrow τ e v (l.set i z))) .unk:=by
 obtain⟨g,n,cap,hr,C,hp⟩:=Gv hx hk;obtain⟨hn,f,xs,hg,hnc,hcm,hcs,htk,p,hns,hB⟩:=jc hi hk hr;subst hn;have he:=uX p i C;rw[Ql C]at hz;have T:=(dat?_sound hd hy).cells;have hds:=T.size;obtain⟨hle,hset⟩:=Xr T hz he;have hch:=Kr p C hset;have hxl:=bJ p;obtain⟨ii,zz,R,hsz,_⟩:=tk.ty t _ ht;have hcl:f.toList.length=cap*τ.size:=by rw[C',hcs]
 have hni:i*τ.size+τ.size≤l.length*τ.size:=by rw[←Nat.succ_mul];exact r_ _ C
 have hnc':l.length*τ.size≤cap*τ.size:=r_ _ hnc;have hseg:((xs.drop (i*τ.size)).take τ.size).length=τ.size:=by simp;omega
 rw[hseg]at hle;generalize hcy:(a.eval y).cells.toList=cy at *;have hfit:i*τ.size+off+0+cy.length≤f.size:=by rw[hcs];omega
 have hst:=ak0 (P:=P) g (i*τ.size+off) e cy 0 f c.w hg hfit T.one;simp at hst;have hA:(f.toList.take (i*τ.size+off)++cy++f.toList.drop (i*τ.size+off+cy.length)).toArray.size=f.size:=by simp;omega
 have hT:((f.toList.take (i*τ.size+off)++cy++f.toList.drop (i*τ.size+off+cy.length)).toArray.toList.take (l.length*τ.size)) =
   xs.take (i*τ.size)++(((xs.drop (i*τ.size)).take τ.size).take off++cy++((xs.drop (i*τ.size)).take τ.size).drop (off+cy.length))++xs.drop (i*τ.size+τ.size):=by
  rw[←htk];apply M?;intro j;simp only[Y',List.getElem?_append,q_,p_,N',alD,hcl];by_cases h1:j<i*τ.size
  ·have e1:j<l.length*τ.size:=Ω
   have e2:j<min (i*τ.size+off) (cap*τ.size):=Ω
   simp only[e1,j?];repeat (first|rw[G' Ω]|rw[Θ Ω])
  ·by_cases h2:j<i*τ.size+off
   ·repeat (first|rw[G' Ω]|rw[Θ Ω])
    congr 1;omega
   ·by_cases h3:j<i*τ.size+off+cy.length
    ·repeat (first|rw[G' Ω]|rw[Θ Ω])
     congr 1;omega
    ·by_cases h4:j<i*τ.size+τ.size
     ·repeat (first|rw[G' Ω]|rw[Θ Ω])
      congr 1;omega
     ·by_cases h5:j<l.length*τ.size
      ·repeat (first|rw[G' Ω]|rw[Θ Ω])
       congr 1;omega
      ·repeat (first|rw[G' Ω]|rw[Θ Ω])
 obtain⟨hI,hE⟩:=ZS hi hk hr hg (l2:=l.set i z) Ψ hA (by rw[hT];exact hch);intro K Q h;have hrun:(execOp a.eval o).run P c.w = .ok .skip (c.w.setRow g (f.toList.take (i*τ.size+off)++cy++f.toList.drop (i*τ.size+off+cy.length)).toArray):=by
  unfold execOp;have hcs':(a.eval y).cells.size=ii.size:=by rw[hsz,←Array.length_toList,hcy,hds]
  simp[ho,hp,Instr.storeAt,Instr.sureAddr,storeVar,sizeOf,typeInfo,R,hcs',hcy,hst]
 unfold Oper.wp;rw[hrun];exact h undef _ rfl hI hE ⟨_,rfl⟩
def Z5 {r:Value}{j:Nat}(h:tN r size lo hi s)(C:s = .slice A n cap)(J:n≤cap)(P:i≤j)(U:j≤hi-lo) :
  tN r size (lo+i) (lo+j) (.slice (if cap=i then A else A.map (·.add (i*size))) (j-i) (cap-i)):=by
 rcases h with⟨p,rfl,rfl,l⟩|⟨g,m,T,A',p,h2,h3,l,f⟩
 ·rw[C]at l;injection l with q1 q2 q3;subst q1;subst q2;subst q3;have:i=0:=Ω
  have:j=0:=Ω
  subst i;subst j;exact .inl ⟨p,rfl,rfl,rfl⟩
 ·rw[C]at l;injection l with q1 q2 q3;subst q1;subst q2;subst q3;refine .inr ⟨g,m,T,_,p,Ω,Ω,by rw[show lo+j-(lo+i)=j-i by omega,Nat.sub_sub], ?_⟩;split
  next hc=>
   by_cases R:i=0
   ·subst R;obtain f|f:=f
    ·exact .inl (by rw[f,akS])
    ·exact .inr ⟨Ω,Ω⟩
   ·refine .inr ⟨?_,Ω⟩;omega
  next hc=>
   obtain f|f:=f
   ·left;rw[f];simp[akN,du,Y_]
   ·omega
def NZ {r:Value}(h:tN r size lo hi s):∃A cap,s = .slice A (hi-lo) cap:=by
 rcases h with⟨_,rfl,rfl,rfl⟩|⟨g,m,f,j,_,_,_,rfl,_⟩
 ·exact⟨_,_,rfl⟩
 ·exact⟨_,_,rfl⟩
def Z7 {l:List τ.den}(P:Inv B U J c)(C:c.heap[k]? = some (.mrow τ e v l))(h:tN (c.rv k) τ.size lo hi s)(j:s = .slice A n cap):n≤cap∧n=hi-lo:=by
 rcases h with⟨p,rfl,rfl,f⟩|⟨g,m,cp,A',p,h2,T,f,R⟩
 ·rw[j]at f;injection f with _ f R;omega
 ·rw[j]at f;injection f with _ f h6;obtain⟨_,_,_,_,r,_⟩:=jc P C p;omega
def SS (hi:Inv B U J c)(tk:TabOk P tab){r j:Option Operand}(ho:o.op = .slice t x r j none){g :Nat}{l:List τ.den}(hx:RA c (.msl k v lo g) [a.eval x])
  (hk:c.heap[k]? = some (.mrow τ e v l)) (ht:tab.ty t=some (.slice τ)) {C b1:Option Int} (hlo:IB (r.map a.eval) C) (hhi:IB (j.map a.eval) b1) (hc:(aK C b1 (g-lo)).1=true) :
  Ok P B U J o a c c.heap (.msl k v (lo+(aK C b1 (g-lo)).2.1) (lo+(aK C b1 (g-lo)).2.2)):=by
 obtain⟨i,z,_,_,_,_,_,_,hu⟩:=tk.ty t _ ht;obtain⟨e',he,R,_⟩:=hu;have f:=fX hx hk;obtain⟨A,cap,T⟩:=NZ f;obtain⟨p,_⟩:=Z7 hi hk f T;obtain⟨h1,h2,h3⟩:=kD (P:=P) c.w true (g-lo) cap hlo hhi hc p;refine aA hi ?_ (yh hk (Z5 f T p h2 h3));unfold execOp;simp[ho,T,Instr.sliceAt,υ,θ he,Instr.slice,h1,aH tk R,j_]
def aaY (hi:Inv B U J c)(r:TabOk P tab)(ho:o.op = .call cl)(p:cl.callee = .builtin .len)(f:cl.args = #[x])(j:cl.argTypes[0]? = some t){g :Nat}{l:List τ.den}(C:RA c (.msl k v lo g) [a.eval x])
  (hk:c.heap[k]? = some (.mrow τ e v l)) (T:tab.ty t=some (.slice τ)):Ok P B U J o a c c.heap (.val (.int .i64) ((g-lo:Nat):Int)):=by
 obtain⟨i,z,_,_,_,_,_,_,R⟩:=r.ty t _ T;obtain⟨e',he,_⟩:=R;obtain⟨A,cap,hs⟩:=NZ (fX C hk);refine aA hi ?_ (fG _ _);unfold execOp;simp[ho,resolve,p,f,invoke,builtin,Builtin.len_,j,hs,θ he,goInt]
def aeB (hi:Inv B U J c){m:Nat}{l:List τ.den}(R:c.heap[k]? = some (.mrow τ e v l))(h:tN (c.rv k) τ.size 0 m s) :
  m≤l.length∧s.ownBlock=obk c k∧∃r,c.w.ownsRow B e τ.size s m r∧Rep c.w c.St (chain (toD τ) (l.take m)) r:=by
 obtain⟨r,hown,hrep,_⟩:=hi.mrow k τ e v l R;have f:obk c k=(c.rv k).ownBlock:=by unfold obk;rw[R]
 rcases h with⟨p,_,rfl,rfl⟩|⟨g,n,cap,A,p,_,h3,rfl,h5⟩
 ·exact⟨k_ _,by rw[f,p],[],V_ _ _ _ _,rfl⟩
 ·obtain⟨rfl,j,xs',hg,hnc,hcm,T,C,P,_,hB⟩:=jc hi R p;obtain rfl|⟨_,h5⟩:=h5
  ·refine⟨h3,by rw[f,p];rfl,j.toList.take (m*τ.size),⟨?_,.inr ⟨g,cap,j, ?_,hB,hg,Ω,hcm,T,rfl⟩⟩, ?_⟩
   ·have:m*τ.size≤cap*τ.size:=r_ _ Ω;simp;omega
   ·rw[akB,akR,akR]
   ·have:=sS m h3 P;rw[←C,akV]at this;rw[W? (r_ _ h3)]at this;exact this
  ·omega
def E4 {v:Value}{f:List Value}(h:w.ownsRow B e size v n f):tN v size 0 n v:=by
 rcases h.2 with⟨rfl,rfl⟩|⟨g,cap,j,rfl,_⟩
 ·exact .inl ⟨rfl,rfl,rfl,rfl⟩
 ·exact .inr ⟨g,n,cap,some ⟨g,0,none⟩,rfl,k_ _,ζ _,Ψ,.inl Ψ⟩
def Pa (hi:Inv B U J c)(tk:TabOk P tab){s:Operand}(ho:o.op = .call cl)(hcl:cl.callee = .builtin .append)(hargs:cl.args = #[s,x])(hty:cl.argTypes = #[t,t]){m:Nat}{l f:List τ.den}
  (hs:RA c (.msl k v 0 m) [a.eval s]) (ht:tab.ty t=some (.slice τ)) (hx:∃A cp ds,a.eval x = .slice A f.length cp∧Rep c.w c.St (chain (toD τ) f) ds∧ds.length=f.length*τ.size∧(f.length=0∨∃p,A=some p∧∀j u,ds[j]? = some u→c.w.cell? (p.add j)=some u))
  (he:tab.elem t=some e) (hk:c.heap[k]? = some (.mrow τ e v l)) (hlim:m+f.length≤LIM) :
  Ok P B U J o a c (c.heap.set k (.mrow τ e (v+1) (l.take m++f))) (.msl k (v+1) 0 (m+f.length)):=by
 obtain⟨i,z,_,_,_,_,_,_,hu⟩:=tk.ty t _ ht;obtain⟨R,u1,u2,u3,hpos⟩:=hu;have:R=e:=by rw[he]at u3;exact(q' u3).symm
 subst this;obtain⟨ie,ze,t1,t2,t3,t4,t5,_⟩:=tk.ty R τ u2;have T:=fX hs hk;obtain⟨hml,r,xs,hown,hrep⟩:=aeB hi hk T;obtain⟨A,cp,ds,ex,hrx,hdl,hsrc⟩:=hx;obtain⟨r63,rby⟩:=oZ hlim t5;obtain⟨v',w',hrun,h2,h3,h4,h5,hd⟩:=dQ (P:=P) (B:=B) c.w t o.type R ie ze τ.size ie.bytes u1 t1 t3 t2 rfl (by rw[←Array.length_toList,t4,←(fQ (w:=c.w) (St:=c.St) τ).size]) hpos (a.eval s) m xs hown A f.length cp ds hdl hsrc hrx.one r63 rby hi.size;obtain⟨_,_,_,hns⟩:=hi.mrow k τ R v l hk;have C:obk c k=(c.rv k).ownBlock:=by unfold obk;rw[hk]
 have g:∀(p:Addr) u,c.St p.block p.off→p.spot=none→c.w.cell? p=some u→w'.cell? p=some u:=λp u hst _ hc=>by refine h3.cell hc (λe=>?_);rw[r,C]at e;exact hns p.block e.symm p.off hst
 have hlen:(l.take m++f).length=m+f.length:=by simp;omega
 have hnst:∀b,v'.ownBlock=some b→∀o,¬c.St b o:=λb hb o x=>by
  obtain h4|h4:=h4
  ·rw[h4,r,C]at hb;exact hns b hb o x
  ·rw[h4]at hb;injection hb with hb;have:=hi.bnd _ _ x;omega
 obtain⟨hI,hE⟩:=hi.obj (k:=k) (ho' :=.mrow τ R (v+1) (l.take m++f)) (w':=w') (St':=c.St) (r':=v') (ar hk) (by rw[←r];exact h3) hd (Sb.le.refl _) (λ_ _ _ _ x=>x) (λ_ _ x=>.inl x) g
  (.inr ⟨τ,R,v,l,hk,.inl ⟨v+1,_,rfl,Ω,λh=>Ω⟩⟩)
  (.inr ⟨τ,R,v+1,_,rfl,.inr (by rw[←r];exact h4),xs++ds,by rw[hlen];exact h2,(lg hrep hrx).mono (Sb.le.refl _) g,hnst⟩)
 refine eW (v:=v') (ge ho hcl hargs hty (by rw[ex];exact hrun)) rfl hI hE (yh (l:=l.take m++f) (e:=R) (τ:=τ) ?_ ?_)
 ·show(c.heap.set k _)[k]? = _;rw[get_set,G' rfl,G' (ar hk)]
 ·show tN (if k=k then v' else c.rv k) τ.size 0 (m+f.length) v';rw[G' rfl];exact E4 h2
def Gb (hi:Inv B U J c)(tk:TabOk P tab){s:Operand}(ho:o.op = .call cl)(hcl:cl.callee = .builtin .append)(p:cl.args = #[s,x])(hty:cl.argTypes = #[t,t]){j:List τ.den}
  (hs:RA c .nil [a.eval s]) (hx:RA c u [a.eval x]) (hl:zr (tab.ty t) u=some ⟨τ,j⟩) (he:tab.elem t=some e) (hf:c.heap[fresh]? = some .none) (hlim:j.length≤LIM) :
  Ok P B U J o a c (c.heap.set fresh (.mrow τ e 1 j)) (.msl fresh 1 0 j.length):=by
 obtain⟨ht,hxv⟩:=gy hl hx;obtain⟨i,z,_,_,_,_,_,_,hu⟩:=tk.ty t _ ht;obtain⟨r,u1,u2,u3,hpos⟩:=hu;have:r=e:=by rw[he]at u3;exact(q' u3).symm
 subst this;obtain⟨ie,ze,t1,t2,t3,t4,t5,_⟩:=tk.ty r τ u2;obtain⟨A,cp,ds,ex,hrx,hdl,hsrc⟩:=DL hxv;obtain⟨r63,rby⟩:=oZ hlim t5;have hs:[a.eval s]=[.slice none 0 0]:=hs;simp at hs;obtain⟨C,w',hrun,h2,h3,R,h5,hd⟩:=dQ (P:=P) (B:=B) c.w t o.type r ie ze τ.size ie.bytes u1 t1 t3 t2 rfl (by rw[←Array.length_toList,t4,←(fQ (w:=c.w) (St:=c.St) τ).size]) hpos (.slice none 0 0) 0 [] (V_ _ _ _ _) A j.length cp ds hdl hsrc hrx.one (by simpa using r63) (by simpa using rby) hi.size;have f:obk c fresh=none:=by unfold obk;rw[hf]
 have g:∀(T:Addr) u,c.St T.block T.off→T.spot=none→c.w.cell? T=some u→w'.cell? T=some u:=λT u hst _ hc=>by refine h3.cell hc (λe=>?_);cases e
 have hnst:∀b,C.ownBlock=some b→∀o,¬c.St b o:=λb hb o x=>by
  obtain R|R:=R
  ·rw[R]at hb;cases hb
  ·rw[R]at hb;injection hb with hb;have:=hi.bnd _ _ x;omega
 have h2':w'.ownsRow B r τ.size C j.length ds:=by simpa using h2
 obtain⟨hI,hE⟩:=hi.obj (k:=fresh) (ho' :=.mrow τ r 1 j) (w':=w') (St':=c.St) (r':=C) (ar hf) (by rw[f];exact h3) hd (Sb.le.refl _) (λ_ _ _ _ x=>x) (λ_ _ x=>.inl x) g (.inl hf)
  (.inr ⟨τ,r,1,_,rfl,.inr (by rw[f];exact R),ds,h2',hrx.mono (Sb.le.refl _) g,hnst⟩)
 refine eW (v:=C) (ge ho hcl p hty (by rw[hs,ex];exact hrun)) rfl hI hE (yh (l:=j) (e:=r) (τ:=τ) ?_ ?_)
 ·show(c.heap.set fresh _)[fresh]? = _;rw[get_set,G' rfl,G' (ar hf)]
 ·show tN (if fresh=fresh then C else c.rv fresh) τ.size 0 j.length C;rw[G' rfl];exact E4 h2'
def DE (hi:Inv B U J c)(tk:TabOk P tab){parts:Array (Nat×Operand)}(ho:o.op = .buildSlice t 0 parts)(hp:parts.size=0)
  (ht:tab.ty t=some (.slice τ)) (he:tab.elem t=some e) (R:c.heap[fresh]? = some .none):Ok P B U J o a c (c.heap.set fresh (.mrow τ e 0 [])) (.msl fresh 0 0 0):=by
 obtain⟨i,z,_,_,_,_,_,_,hu⟩:=tk.ty t _ ht;obtain⟨p,u1,u2,u3,hpos⟩:=hu;have:p=e:=by rw[he]at u3;exact(q' u3).symm
 subst this;have hpe:parts = #[]:=p? hp;subst hpe;have g:obk c fresh=none:=by unfold obk;rw[R]
 have hb:Below c.w.heap.size c.w (c.w.alloc (.cells #[] p)):=(Below.refl _ _).alloc (ζ _) _;have f:∀(r:Addr) u,c.St r.block r.off→r.spot=none→c.w.cell? r=some u→(c.w.alloc (.cells #[] p)).cell? r=some u:=λr u T _ hc=>(hb.cell (hi.bnd _ _ T)).trans hc;have C:Rep c.w c.St (chain (toD τ) []) []:=rfl;obtain⟨hI,hE⟩:=hi.obj (k:=fresh) (ho' :=.mrow τ p 0 []) (w':=c.w.alloc (.cells #[] p)) (St':=c.St) (r' :=.slice (some ⟨c.w.heap.size,0,none⟩) 0 0) (ar R)
  (by rw[g];exact⟨rfl,rfl,rfl,hb.size,λb j _=>hb.block b j⟩) (ζ _) (Sb.le.refl _) (λ_ _ _ _ x=>x) (λ_ _ x=>.inl x) f (.inl R)
  (.inr ⟨τ,p,0,_,rfl,.inr (.inr rfl),[],⟨Ψ,.inr ⟨c.w.heap.size,0, #[],rfl,hi.size,u? c.w _,ζ _,by simp[maxLen],Ψ,Ψ⟩⟩,C.mono (Sb.le.refl _) f,λb j o x=>by
   simp only[Value.ownBlock,ι]at j;have:=hi.bnd _ _ x;omega⟩)
 refine eW (v :=.slice (some ⟨c.w.heap.size,0,none⟩) 0 0) ?_ rfl hI hE (yh (τ:=τ) (e:=p) (l:=[]) ?_ ?_)
 ·unfold execOp;have hno:¬(0*τ.size>2^24):=Ω
  have h0:0*τ.size=0:=akB _;simp only[ho,Instr.buildSlice,υ,θ u1,ο,aH tk u2,Θ hno];rw[G' h0,υ,j_,ο];simp[newRow,Instr.fill,show Array.range 0 = #[] from rfl]
 ·show(c.heap.set fresh _)[fresh]? = _;rw[get_set,G' rfl,G' (ar R)]
 ·show tN (if fresh=fresh then _ else c.rv fresh) τ.size 0 0 _;rw[G' rfl];exact .inr ⟨c.w.heap.size,0,0,some ⟨c.w.heap.size,0,none⟩,rfl,k_ _,ζ _,Ψ,.inl Ψ⟩
def Ji {w:World}{St:Sb}:∀{l:List Int} {f:List Value},Rep w St (chain (toD (.int .u8)) l) f→f=l.map (λn=>.int .u8 n)
 |[],f,h=>h
 |n::l,f,h=>by obtain⟨c1,c2,rfl,⟨rfl,_⟩,h2⟩:=h;rw[Ji h2];rfl
def Ig (hi:Inv B U J c)(tk:TabOk P tab){s:TypeId}(ho:o.op = .convert s t x){l:List Int}(hx:RA c u [a.eval x])(hl:one? (.slice (.int .u8)) u=some l)(ht:tab.ty t=some .str)(hs:tab.ty s=some (.slice (.int .u8))) :
  Ok P B U J o a c c.heap (.val .str (l.map λn:Int=>UInt8.ofNat n.toNat)):=by
 obtain⟨i,z,_,_,_,_,_,_,hu⟩:=tk.ty t _ ht;have hu:P.underlying t=some .string:=hu;obtain⟨i',z',_,_,_,_,_,_,hus⟩:=tk.ty s _ hs;obtain⟨e,u1,u2,u3,hpos⟩:=hus;obtain⟨_,_,_,_,_,_,_,_,p⟩:=tk.ty e _ u2;have p:P.underlying e=some (.int .u8):=p;obtain⟨A,cp,ev,hcap,hds⟩:=fx ((repv_cell (t :=.slice (.int .u8)) rfl).1 (one?_sound hl hx));simp at ev;refine aA hi (v :=.string ⟨(l.map λn:Int=>UInt8.ofNat n.toNat).toArray⟩) ?_ (FH _);have f:(Conv.bytesToString (a.eval x)).run P c.w = .ok (.string ⟨(l.map λn:Int=>UInt8.ofNat n.toNat).toArray⟩) c.w:=by
  rw[ev];cases A with
  |none=>
   have hl0:l=[]:=by
    obtain h0|⟨ad,ds,h0,_⟩:=hds
    ·exact Q' h0
    ·cases h0
   subst hl0;simp[Conv.bytesToString];rfl
  |some ad=>
   have C:(loadCells ad l.length).run P c.w = .ok (l.map (Value.int .u8)).toArray c.w:=by
    obtain h0|⟨ad',ds,h0,_,hrep,T⟩:=hds
    ·have:l=[]:=Q' h0;subst this;simp[loadCells,loadCellsFrom]
    ·cases h0;have hb:=Ji hrep;have:=akr (P:=P) c.w ad ds (λj u hu=>(T j u hu).1);rw[hb]at this;simpa using this
   rw[run_bytesToString (P:=P) c.w ad l.length cp l C];have R:∀(ns:List Int) (g:ByteArray),ns.foldl (λr n=>r.push (UInt8.ofNat n.toNat)) g=⟨g.data++(ns.map λn:Int=>UInt8.ofNat n.toNat).toArray⟩:=by
    intro ns;induction ns with
    |nil=>intro g;simp
    |cons n ns ih=>intro g;simp only[List.foldl_cons,ih,X_];congr 1;simp[ByteArray.push]
   rw[R];congr 3;simp
 unfold execOp;simp[ho,convert,θ u1,θ hu];rw[ev]at f⊢;simp[θ p,f]
end
def ph (g:Bool):AV→Bool×AV
 |.cond c a=>(aL g c,a)
 |a=>(true,a)
def pU (g:Bool):List AV→Bool×List AV
 |[]=>(true,[])
 |a::l=>((ph g a).1&&(pU g l).1,(ph g a).2::(pU g l).2)
def iv (op:Op)(g:Bool)(l:List AV):Bool×List AV :=
 match op,l with
 |.pick _ _ _,a::r=>((ph g a).1,(ph g a).2::r)
 |_,l=>pU g l
def AT (env:List AV)(g:List Oper)(j:Nat)(f:Bool):Option Bool :=
 match (g[j]?).bind (·.dst)with
 |some d=>match env.getD d .unk with
  |.val .bool b=>some (match f with|true=>b|false=>!b)
  |.cond c (.val .bool b)=>some (c&&(match f with|true=>b|false=>!b))
  |_=>none
 |none=>none
structure Dl where
 chk:Bool
 out:AV
 dst:Option Nat
 wr:Option (Nat×HO)
def ue (env:List AV)(f:Option Nat)(a:AV):List AV :=
 match f with
 |some d=>env.set d a
 |none=>env
def Ff (f:List HO)(wr:Option (Nat×HO)):List HO :=
 match wr with
 |some (k,ho)=>f.set k ho
 |none=>f
def Dl.app (d:Dl)(σ:Sg):Sg:=⟨ue σ.env d.dst d.out,Ff σ.heap d.wr⟩
def Qe (f:List HO)(k:Option Nat):HO :=
 match k with
 |some k=>f.getD k .none
 |none=>.none
def UN (f:Tab)(T:Specs)(o:Oper)(fresh:Nat)(g:Option Bool)(C:List AV)(l:HO):Option Dl :=
 match g with
 |none=>match eff f T o true C fresh l with
  |some (c,out,j)=>some ⟨c,out,o.dst,if cR T o.op then none else match cm T o.op C fresh with|some k=>some (k,j)|none=>none⟩
  |none=>none
 |some g=>if cR T o.op then match eff f T o g (iv o.op g C).2 fresh l with
   |some (c,out,_)=>some ⟨(iv o.op g C).1&&aL g c,.cond g out,o.dst,none⟩
   |none=>none
  else match aiy f o (iv o.op g C).2 with
   |some out=>some ⟨(iv o.op g C).1,.cond g out,o.dst,none⟩
   |none=>none
def gOf (env:List AV)(f:List Oper)(o:Oper):Option (Option Bool) :=
 match o.guard with
 |none=>some none
 |some (j,want)=>match AT env f j want with
  |some g=>some (some g)
  |none=>none
def de (env:List AV)(o:Oper):List AV:=o.op.operands.toList.map (SP env)
def l7 (T:Specs)(o:Oper)(fresh:Nat)(g:Option Bool)(C:List AV):Option Nat :=
 match g with
 |none=>cm T o.op C fresh
 |some g=>cm T o.op (iv o.op g C).2 fresh
def xz (j:Tab)(T:Specs)(l:List Oper)(fresh:Nat)(o:Oper)(f:Sg):Option Dl :=
 match gOf f.env l o with
 |some g=>UN j T o fresh g (de f.env o) (Qe f.heap (l7 T o fresh g (de f.env o)))
 |none=>none
def AV.noCond:AV→Bool
 |.fn _ c=>c.noCond
 |.agg p=>p.noCond
 |.tup p=>p.noCond
 |.pcons a b=>a.noCond&&b.noCond
 |.cond _ _=>false
 |_=>true
def clr:AV→AV
 |.cond _ _=>.unk
 |a=>a
inductive Tgt where
 |fn (f:FuncId)|yld (j:Nat)
abbrev Yk:=Nat→List AV→List HO→(AV→List HO→Option AV)→Option AV
abbrev Ck:=Tgt→List AV→List HO→(AV→List HO→Option AV)→Option AV
structure Callk where
 call:Ck
 iter:Yk→Ck
def cH (o:Oper)(env:List AV):Option (Tgt×List AV) :=
 match o.op,o.guard with
 |.call cl,none=>match cl.callee,de env o with
  |.value _,.fn f caps::args=>if env.all AV.noCond then some (.fn f,args++caps.parts)else none
  |.value _,.yld j::args=>if env.all AV.noCond then some (.yld j,args)else none
  |_,_=>none
 |_,_=>none
def Pp (g:Tab)(o:Oper)(f:Sg)(fresh:Nat):Option (Bool×AV×List HO) :=
 match o.op,o.guard with
 |.call cl,none=>match cl.callee with
  |.builtin .append=>match de f.env o,cl.argTypes.toList with
   |[s,.msl k v lo hi],[t1,j]=>if t1=j then match g.elem t1,g.ty t1,f.heap[k]? with
     |some e,some (.slice τ),some (.mrow τ' _ v' l)=>if v'=v then match cast? (.slice τ') (.slice τ) l with
       |some l=>match s with
        |.own C r j p=>match f.heap[C]? with
         |some (.row t3 e3 v3)=>if t3=j then if e3=e then if v3=r then match cast? (.slice j) (.slice τ) p with
           |some p=>some (decide (p.length+((l.take hi).drop lo).length≤LIM),.own C (r+1) τ (p++(l.take hi).drop lo),f.heap.set C (.row τ e (r+1)))
           |none=>none
          else none else none else none
         |_=>none
        |.nil=>match f.heap[fresh]? with
         |some .none=>some (decide (((l.take hi).drop lo).length≤LIM),.own fresh 1 τ ((l.take hi).drop lo),f.heap.set fresh (.row τ e 1))
         |_=>none
        |_=>none
       |none=>none
      else none
     |_,_,_=>none
    else none
   |_,_=>none
  |_=>none
 |_,_=>none
def aP (l:Tab)(T:Specs)(ck:Callk)(C:List Oper)(g:Nat):Nat→List Oper→Sg→(Sg→Option AV)→Option AV
 |_,[],p,k=>k p
 |i,o::r,p,k=>
  match xz l T C (g+i) o p with
  |some d=>bif d.chk then aP l T ck C g (i+1) r (d.app p) k else none
  |none=>match Pp l o p (g+i)with
   |some (b,out,j)=>bif b then aP l T ck C g (i+1) r ⟨ue p.env o.dst out,j⟩ k else none
   |none=>match cH o p.env with
    |some (f,args)=>ck.call f args p.heap (λres j=>aP l T ck C g (i+1) r ⟨ue p.env o.dst res,j⟩ k)
    |none=>none
def ES (l:Tab)(T:Specs)(j:List Oper)(f:Nat):Nat→List Oper→Sg→Option (List Dl×List (Option Nat))
 |_,[],_=>some ([],[])
 |i,o::r,σ=>
  match xz l T j (f+i) o σ with
  |some d=>match ES l T j f (i+1) r (d.app σ)with
   |some (ds,ts)=>some (d::ds,(match gOf σ.env j o with|some g=>l7 T o (f+i) g (de σ.env o)|none=>none)::ts)
   |none=>none
  |none=>match r with
   |[]=>some ([],[])
   |_=>none
def aM:List Oper→List Nat→List Nat
 |[],acc=>acc
 |o::r,acc=>aM r (acc++[o.after.toList.foldl (λs e=>if Region.binds .any e then s ||| 2^e.on ||| acc.getD e.on 0 else s) 0])
def bT:Nat→List Oper→Bool
 |_,[]=>true
 |i,o::r=>o.after.toList.all (λe=>!Region.binds .any e||decide (e.on<i))&&bT (i+1) r
def eD (f:List Oper)(o:Oper):List Nat :=
 (o.op.operands.toList.filterMap λ|.tmp t=>some t|_=>none)++(match o.guard with|some (j,_)=>((f[j]?).bind (·.dst)).toList|none=>[])
def JD (x y:Option Nat):Bool :=
 match x,y with
 |some a,some b=>a == b
 |_,_=>false
def HS (T:Specs)(f:List Oper)(j g:Oper)(p l:Option Nat):Bool :=
 !JD j.dst g.dst&&(match j.dst with|some d=>!(eD f g).contains d|none=>true)&&(match g.dst with|some d=>!(eD f j).contains d|none=>true) &&
 (!JD p l||(cR T j.op&&cR T g.op))
def fH (T:Specs)(f:List Oper)(r:List Nat)(g:List (Option Nat))(i j:Nat):Bool :=
 (r.getD j 0).testBit i||(match f[i]?,f[j]? with
  |some p,some l=>HS T f p l (g.getD i none) (g.getD j none)
  |_,_=>false)
def MB (T:Specs)(f:List Oper)(g:List (Option Nat))(l:List Nat):Bool :=
 bT 0 f&&(List.range f.length).all (λj=>(List.range j).all λi=>
  if j<g.length then fH T f l g i j else(l.getD j 0).testBit i)
def aig (k:Sg→Option AV):Sg→Option AV:=λf=>k ⟨f.env.map clr,f.heap⟩
def vY (j:Tab)(T:Specs)(ck:Callk)(f:List Oper)(l:Bool)(g:Sg)(k:Sg→Option AV):Option AV :=
 match l with
 |false=>aP j T ck f g.heap.length 0 f ⟨g.env,g.heap++List.replicate f.length .none⟩ (aig k)
 |true=>match ES j T f g.heap.length 0 f ⟨g.env,g.heap++List.replicate f.length .none⟩with
  |some (_,ts)=>if MB T f ts (aM f [])then aP j T ck f g.heap.length 0 f ⟨g.env,g.heap++List.replicate f.length .none⟩ (aig k)else none
  |none=>none
inductive MK where
 |dat (t:Ty)|own (t:Ty) (e:TypeId)|mut (t:Ty) (e:TypeId)|keep|drop
structure MS where
 h0:Nat
 pre:List (Nat×List MK)
 env:List (Nat×MK)
def AV.under (n:Nat):AV→Bool
 |.box k _=>decide (k<n)
 |.own k _ _ _=>decide (k<n)
 |.msl k _ _ _=>decide (k<n)
 |.mpt k _ _ _=>decide (k<n)
 |.yld k=>decide (k<n)
 |.fn _ c=>c.under n
 |.agg p=>p.under n
 |.tup p=>p.under n
 |.pcons a b=>a.under n&&b.under n
 |.cond _ a=>a.under n
 |_=>true
inductive LE where
 |own (t:Ty) (e:TypeId)
 |mut (t:Ty) (e:TypeId) (ko:Option (Nat×Nat)) (l:List t.den)
 |frz (t:Ty) (e:TypeId) (ko:Option (Nat×Nat)) (l:List t.den)
def LE.ho:LE→HO
 |.own t e=>.row t e 0
 |.mut t e _ l=>.mrow t e 0 l
 |.frz _ _ _ _=>.dead
def afv (k v:Nat):Option (Nat×Nat)→Bool
 |some (k',v')=>Nat.beq k k'&&Nat.beq v v'
 |none=>false
def AX (t:Ty)(k v:Nat):Nat→List LE→Option Nat
 |_,[]=>none
 |i,.mut t' _ ko _::r=>if afv k v ko&&decide (t'=t)then some i else AX t k v (i+1) r
 |i,_::r=>AX t k v (i+1) r
def AY (t:Ty)(k v:Nat):List LE→Option (List t.den)
 |[]=>none
 |.frz t' _ ko l::r=>if afv k v ko then match cast? (.slice t') (.slice t) l with|some l=>some l|none=>none else AY t k v r
 |_::r=>AY t k v r
def conv (f:Nat):MK→AV→List HO→List LE→Option (AV×List HO×List LE)
 |.dat t,.msl k v j p,H,L=>match t with
  |.slice g=>match AY g k v L with
   |some l=>some (.val (.slice g) ((l.take p).drop j),H,L)
   |none=>match H[k]? with
    |some (.mrow τ' e v' l)=>if v'=v then match cast? (.slice τ') (.slice g) l with
      |some l=>some (.val (.slice g) ((l.take p).drop j),H.set k .dead,L++[.frz g e (some (k,v)) l])
      |none=>none
     else none
    |_=>none
  |_=>none
 |.dat t,a,H,L=>match dat? t a with
  |some x=>some (.val t x,H,L)
  |none=>none
 |.own t e,.own k v r l,H,L=>match H[k]? with
  |some (.row t2 e2 v2)=>if t2=r then if e2=e then if v2=v then match cast? (.slice r) (.slice t) l with
    |some l=>some (.own (f+L.length) 0 t l,H.set k (.row t2 e2 (v2+1)),L++[.own t e])
    |none=>none
   else none else none else none
  |_=>none
 |.own t e,.nil,H,L=>some (.own (f+L.length) 0 t [],H,L++[.own t e])
 |.mut t e,.msl k v j p,H,L=>match AX t k v 0 L with
  |some i=>some (.msl (f+i) 0 j p,H,L)
  |none=>match H[k]? with
   |some (.mrow t2 e2 v2 l)=>if e2=e then if v2=v then match cast? (.slice t2) (.slice t) l with
     |some l=>some (.msl (f+L.length) 0 j p,H.set k .dead,L++[.mut t e (some (k,v)) l])
     |none=>none
    else none else none
   |_=>none
 |.mut t e,.nil,H,L=>some (.msl (f+L.length) 0 0 0,H,L++[.mut t e none []])
 |.keep,a,H,L=>if a.under f then some (a,H,L)else none
 |.drop,_,H,L=>some (.unk,H,L)
 |_,_,_,_=>none
def V7 (f:Nat):List MK→List AV→List HO→List LE→Option (List AV×List HO×List LE)
 |[],[],H,L=>some ([],H,L)
 |m::ms,a::as,H,L=>match conv f m a H L with
  |some (g,H,L)=>match V7 f ms as H L with
   |some (as',H,L)=>some (g::as',H,L)
   |none=>none
  |none=>none
 |_,_,_,_=>none
def Em (f:Nat)(env:List AV):List (Nat×MK)→List AV→List HO→List LE→Option (List AV×List HO×List LE)
 |[],acc,H,L=>some (acc,H,L)
 |(s,m)::r,acc,H,L=>match conv f m (env.getD s .unk) H L with
  |some (a,H,L)=>Em f env r (acc.set s a) H L
  |none=>none
def El (f:Nat):List (Nat×List MK)→List HO→List LE→Option (List (Nat×List AV)×List HO×List LE)
 |[],H,L=>some ([],H,L)
 |(k,ms)::r,H,L=>match H[k]? with
  |some (.box cells)=>match V7 f ms cells H L with
   |some (cells',H,L)=>match El f r H L with
    |some (b,H,L)=>some ((k,cells')::b,H,L)
    |none=>none
   |none=>none
  |_=>none
def HO.under (n:Nat):HO→Bool
 |.box cells=>cells.all (AV.under n)
 |_=>true
def eQ:List (Nat×List AV)→List HO→List HO
 |[],H=>H
 |(k,cells)::r,H=>eQ r (H.set k (.box cells))
def z8 (g:Nat)(f:List Nat):Nat→List HO→Bool
 |_,[]=>true
 |i,ho::r=>(f.contains i||ho.under g)&&z8 g f (i+1) r
def Gn:List Nat→Bool
 |[]=>true
 |a::l=>!l.contains a&&Gn l
def afd (g:Nat)(m:MS)(f:Sg):Option Sg :=
 if decide (g≤m.h0)&&decide (m.h0≤f.heap.length)&&Gn (m.pre.map (·.1))&&m.pre.all (λp=>decide (p.1<m.h0))&&z8 m.h0 (m.pre.map (·.1)) 0 (f.heap.take m.h0)then
  match El m.h0 m.pre f.heap []with
  |some (j,H,L)=>match Em m.h0 f.env m.env (List.replicate f.env.length .unk) H L with
   |some (env,H,L)=>some ⟨env,eQ j (H.take m.h0)++L.map LE.ho⟩
   |none=>none
  |none=>none
 else none
inductive Ex where
 |normal|exit (id:Nat)|ret
abbrev KT:=Ex→Sg→Option AV
structure Par where
 tab:Tab
 T:Specs
 joins:Nat→Nat→Option MS
 loops:Nat→Nat→Option MS
def sL:Code→Option Nat
 |.region id _ _=>some id
 |.seq a b=>match sL a with|some i=>some i|none=>sL b
 |.cond _ a b=>match sL a with|some i=>some i|none=>sL b
 |.block _ c=>sL c
 |.loop c=>sL c
 |.scope c=>sL c
 |_=>none
def GC (j:Nat)(m:Option MS)(g:Sg)(k:Sg→Option AV):Option AV :=
 match m with
 |none=>k g
 |some m=>match afd j m g with
  |some f=>k f
  |none=>none
def aQ (j:Nat)(m:Option MS)(l:Sg→KT→Option AV)(k:KT):KT:=λe g=>
 match e with
 |.normal=>GC j m g λf=>l f k
 |e=>k e g
def ai (id:Nat)(k:KT):KT:=λe g=>
 match e with
 |.exit f=>match Nat.beq f id with
  |true=>k .normal g
  |false=>k (.exit f) g
 |e=>k e g
def JJ (j:Nat)(m:MS)(f:Sg→Option AV)(k:KT):KT:=λe g=>
 match e with
 |.normal=>GC j (some m) g f
 |e=>k e g
def aE (g:Nat)(m:MS)(f:Sg→KT→Option AV)(k:KT):Nat→Sg→Option AV
 |0,_=>none
 |n+1,σ=>f σ (JJ g m (aE g m f k n) k)
def aih (f:Sg→Option AV)(k:KT):KT:=λe g=>
 match e with
 |.normal=>f g
 |e=>k e g
def qy (f:Sg→KT→Option AV)(k:KT):Nat→Sg→Option AV
 |0,_=>none
 |n+1,σ=>f σ (aih (qy f k n) k)
def cd:Code→Bool
 |.region _ f _=>f.toList.all λo=>match o.op with|.defer _=>false|_=>true
 |.seq a b=>cd a&&cd b
 |.cond _ a b=>cd a&&cd b
 |.block _ a=>cd a
 |.loop a=>cd a
 |.scope a=>cd a
 |.rangeFunc _ _ a b=>cd a&&cd b
 |_=>true
def zx:List Nat→List AV→List AV→Option (List AV)
 |[],[],env=>some env
 |t::ts,a::as,env=>zx ts as (env.set t a)
 |_,_,_=>none
def aif (g:AV→List HO→Option AV):KT:=λe f=>
 match e with
 |.normal=>g (.val .bool true) f.heap
 |_=>none
def Ln (j:Nat)(call:Ck)(env:List AV)(ps:List Nat)(l:Nat→Sg→KT→Option AV):Yk:=λr args f p=>
 match Nat.beq r j with
 |true=>match zx ps args env with
  |some g=>l f.length ⟨g,f⟩ (aif p)
  |none=>none
 |false=>call (.yld r) args f p
def exec (ck:Callk)(S:Par):Nat→Nat→Code→Sg→KT→Option AV
 |_,_,.skip,g,k=>k .normal g
 |_,_,.label _,g,k=>k .normal g
 |_,_,.region _ p l,g,k=>vY S.tab S.T ck p.toList l g (k .normal)
 |j,f,.seq a b,g,k=>exec ck S j f a g (aQ j ((sL b).bind (S.joins j)) (λg k=>exec ck S j f b g k) k)
 |j,f,.cond c a b,g,k=>match SP g.env c with
  |.val .bool x=>bif x then exec ck S j f a g k else exec ck S j f b g k
  |_=>none
 |j,f,.block id c,g,k=>exec ck S j f c g (ai id k)
 |j,f,.loop c,g,k=>match (sL c).bind (S.loops j)with
  |some m=>GC j (some m) g (aE j m (λg k=>exec ck S j f c g k) k f)
  |none=>qy (λg k=>exec ck S j f c g k) k f g
 |_,_,.exit id,g,k=>k (.exit id) g
 |_,_,.ret,g,k=>k .ret g
 |_,_,_,_,_=>none
def zG (j:Tab)(l:Sg):ResultVar→Option AV
 |.tmp t=>match l.env.getD t .unk with
  |.cond _ _=>none
  |a=>some a
 |.cell t p=>match l.env.getD t .unk with
  |.box k f=>match l.heap.getD k .none,j.ty p with
   |.box cells,some g=>match asm g ((cells.drop f).take g.size)with
    |some x=>some (.val g x)
    |none=>if g.isStruct&&aeH (j.one p) ((cells.drop f).take g.size)then some (.agg (bo ((cells.drop f).take g.size)))else none
   |_,_=>none
  |_=>none
def eu (f:Tab)(g:Sg):List ResultVar→Option (List AV)
 |[]=>some []
 |r::l=>match zG f g r,eu f g l with
  |some a,some j=>some (a::j)
  |_,_=>none
def oF:List AV→AV
 |[a]=>a
 |l=>.tup (bo l)
def ajM (f:Tab)(j:List ResultVar)(k:AV→List HO→Option AV):KT:=λe g=>
 match e with
 |.exit _=>none
 |_=>match eu f g j with
  |some l=>k (oF l) g.heap
  |none=>none
def F7 (f:List HO)(t:Ty)(a:AV):Option t.den :=
 match a with
 |.msl k v j p=>match t with
  |.slice g=>match f[k]? with
   |some (.mrow τ' _ v' l)=>if v'=v then match cast? (.slice τ') (.slice g) l with
     |some l=>some ((l.take p).drop j)
     |none=>none
    else none
   |_=>none
  |_=>none
 |a=>one? t a
def Zn (f:List HO):(t:Ty)→List AV→Option t.den
 |.unit,[]=>some ()
 |.cons a b,l=>match Zn f a (l.take a.size),Zn f b (l.drop a.size)with|some x,some y=>some (x,y)|_,_=>none
 |.tree,[a,b,c,d]=>match F7 f (.int .i64) a,F7 f .str b,F7 f (.slice .str) c,F7 f (.slice .tree) d with
  |some k,some t,some g,some j=>some (Tree.mk k t g j)
  |_,_,_,_=>none
 |.int k,[a]=>F7 f (.int k) a
 |.bool,[a]=>F7 f .bool a
 |.str,[a]=>F7 f .str a
 |.slice t,[a]=>F7 f (.slice t) a
 |_,_=>none
def af1 (f:List HO)(t:Ty)(a:AV):Option t.den :=
 match a with
 |.agg p=>if t.isStruct then Zn f t p.parts else none
 |a=>F7 f t a
def acH (f:List HO):List Ty→List AV→Option (List AV)
 |[],[]=>some []
 |t::ts,a::l=>match af1 f t a,acH f ts l with
  |some x,some r=>some (.val t x::r)
  |_,_=>none
 |_,_=>none
def bq (g:Tab)(p:List ResultVar)(f:List Ty):KT:=λe j=>
 match e with
 |.exit _=>none
 |_=>match eu g j p with
  |some l=>match acH j.heap f l with
   |some l=>some (oF l)
   |none=>none
  |none=>none
structure Fi where
 S:Par
 ntmps:Nat
 results:List ResultVar
 code:Code
abbrev Hs:=FuncId→List AV→List HO→Option (Bool×AV×List HO)
def hs0:Hs:=λ_ _ _=>none
def Iz (call:Yk→Ck)(f:Yk):Callk:=⟨call f,call⟩
def uq (C:FuncId→Option Fi)(r:Hs)(l:Nat):Nat→Yk→Ck
 |_,p,.yld j,args,g,k=>p j args g k
 |0,_,.fn _,_,_,_=>none
 |d+1,p,.fn f,args,g,k=>match r f args g with
  |some (b,out,heap')=>bif b then k out heap' else none
  |none=>match C f with
   |some x=>exec (Iz (uq C r l d) p) x.S g.length l x.code ⟨args++List.replicate (x.ntmps-args.length) .unk,g⟩ (ajM x.S.tab x.results k)
   |none=>none
def noY:Yk:=λ_ _ _ _=>none
abbrev bp (j:FuncId→Option Fi)(g:Hs)(f d:Nat):Callk:=Iz (uq j g f d) noY
def mkE (n:Nat)(l:List (Nat×AV)):List AV:=l.foldl (λe p=>e.set p.1 p.2) (List.replicate n .unk)
def mkH (n:Nat)(l:List (Nat×HO)):List HO:=l.foldl (λe p=>e.set p.1 p.2) (List.replicate n .none)
def sub:Code→List Nat→Code
 |.seq a _,0::r=>sub a r
 |.seq _ b,1::r=>sub b r
 |.cond _ a _,0::r=>sub a r
 |.cond _ _ b,1::r=>sub b r
 |.block _ c,0::r=>sub c r
 |.loop c,0::r=>sub c r
 |.rangeFunc _ _ _ c,0::r=>sub c r
 |.rangeFunc _ _ c _,1::r=>sub c r
 |c,_=>c
abbrev w64 (n:Int):Int:=IntKind.i64.wrap n
abbrev ix (t:Ty)(l:List t.den)(i:Int):t.den:=l.getD i.toNat (zero t)
abbrev ixs (l:Str)(i:Int):Int:=((l.getD i.toNat 0).toNat:Int)
def mn (l:FuncId→Option Fi)(j:Hs)(d:Nat)(x:Fi)(g:List Ty)(f:Nat)(args:List AV):Option AV :=
 match args.all AV.nojk with
 |true=>exec (bp l j f d) x.S 0 f x.code ⟨args++List.replicate (x.ntmps-args.length) .unk,[]⟩ (bq x.S.tab x.results g)
 |false=>none
def RepVs (w:World)(St:Sb):List ((t:Ty)×t.den)→List Value→Prop
 |[],[]=>True
 |d::l,v::vs=>RepV w St d.1 d.2 v∧RepVs w St l vs
 |_,_=>False
def H7:List AV→List ((t:Ty)×t.den)→Prop
 |[],[]=>True
 |a::l,d::r=>dat? d.1 a=some d.2∧H7 l r
 |_,_=>False
def bx (P:Program)(f:FuncId):Prop:=∃fn,P.funcs[f]? = some fn∧fn.body.isSome=true∧(fn.name == "runtime.NumGoroutine")=false
def aG (w:World)(St:Sb):Gh:=⟨[],St,λ_=>0,λ_=>undef,w,λ_=>0⟩
def H4 (w:World)(St:Sb)(res:AV):Ending→World→Prop:=λe f=>
 ∃v St',e = .returned v∧Below w.heap.size w f∧dz w≤dz f∧St.le St'∧(∀b o,St' b o→St b o∨(w.heap.size≤b∧b<f.heap.size))∧(∀b e cap n,St'.j b e cap n→St.j b e cap n∨NJ w.heap.size f St' b e cap n)∧RA (aG f St') res [v]
def MeetsD (P:Program)(f:FuncId)(j:List ((t:Ty)×t.den))(res:AV):Prop :=
 bx P f∧∀w St,(∀b o,St b o→b<w.heap.size)→∀g,RepVs w St j g→Calls P f g.toArray w (H4 w St res)
def H5 (P:Program)(f:FuncId)(args:List AV)(res:AV):Prop :=
 ∃R:World→Sb→List Value→Prop,(∀c g,RAs c args g→R c.w c.St g)∧bx P f∧∀w St,(∀b o,St b o→b<w.heap.size)→∀g,R w St g→Calls P f g.toArray w (H4 w St res)
def ai2 (P:Program)(f:FuncId)(t:Ty)(e:TypeId)(args:List AV)(p:List t.den):Prop :=
 bx P f∧∀(B:Bd) (U:World) (J:Sb) (c:Gh),Inv B U J c→∀(k v:Nat),c.heap[k]? = some (.row t e v)→∀j,RAs c args j →
  Calls P f j.toArray c.w λC l=>∃r g,C = .returned r∧g.heap=c.heap.set k (.row t e (v+1))∧g.w=l∧Inv B U J g∧Ev c g∧RA g (.own k (v+1) t p) [r]
structure SpecsOk (P:Program)(T:Specs):Prop where
 call:∀f args res,T.call f args=some (true,res)→H5 P f args res
 nw:∀f q,T.nw f=some q→∀args l',q.F args=some (true,l')→ai2 P f q.t q.e args l'
section
variable {P:Program}{tab:Tab}{T:Specs}{B:Bd}{U:World}{J:Sb}{c:Gh}{o:Oper}{a:Act}
def RAs.dat:∀{g:List AV} {f:List Value} {j:List ((t:Ty)×t.den)},H7 g j→RAs c g f→RepVs c.w c.St j f
 |[],[],[],_,_=>trivial
 |_::_,_::_,_::_,⟨h,p⟩,⟨r,l⟩=>⟨dat?_sound h r,RAs.dat p l⟩
 |[],[],_::_,h,_=>h.elim
 |_::_,_::_,[],h,_=>h.elim
variable{f:FuncId}{args us C:List AV}{res:AV}{cl:Call}{x:Operand}{fresh:Nat}{v:Value}{g:Bool}
def lA {ds:List ((t:Ty)×t.den)}(l:H7 args ds)(g:MeetsD P f ds res):H5 P f args res :=
 ⟨λw St j=>RepVs w St ds j,λ_ _ h=>h.dat l,g.1,g.2⟩
def QB {c':Gh}{St:Sb}(f:St.le c'.St):Ev (aG c'.w St) c' :=
 ⟨f,λ_ _ _ _ h=>h,λk cells h=>by simp[aG]at h,λk t e v h=>by simp[aG]at h,λk t e v l h=>by simp[aG]at h,λk h=>by simp[aG]at h,λk h=>by simp[aG]at h⟩
def aeY (hi:Inv B U J c)(ho:o.op = .call cl)(hcl:cl.callee = .value x)(hx:RA c (.fn f .pnil) [a.eval x])(hargs:RAs c args (cl.args.toList.map a.eval))(hm:H5 P f args res) :
  Ok P B U J o a c c.heap res:=by
 obtain⟨R,hR,⟨fn,f1,f2,f3⟩,hm⟩:=hm;obtain⟨cs,e,hcs,_⟩:=hx;have hcs:cs=[]:=hcs;subst hcs;simp at e;have hbody:¬fn.body=none:=by cases hb:fn.body <;> simp_all
 have f3:¬fn.name = "runtime.NumGoroutine":=by simpa using f3
 have hrun:(execOp a.eval o).run P c.w = .ok (.enter f (cl.args.toList.map a.eval).toArray) c.w:=by have e2:cl.args.map a.eval=(cl.args.toList.map a.eval).toArray:=E_ Ψ;unfold execOp;simp[ho,resolve,hcl,e,Deferred.ofValue,invoke,callFunc,h?,f1,f3,hbody,e2]
 intro K Q h;unfold Oper.wp;rw[hrun];refine(hm c.w c.St hi.bnd _ (hR c _ hargs)).mono ?_;rintro _ w' ⟨v,St',rfl,hb,hdr,hs,hn,hj,hr⟩;obtain⟨hI,hE⟩:=hi.grow hb hs hn hdr hj;exact h v { c with w:=w',St:=St' } rfl hI hE (hr.mono (QB (c':={ c with w:=w',St:=St' }) (Sb.le.refl _)))
def ahL (hi:Inv B U J c)(ho:o.op = .call cl)(hcl:cl.callee = .value x){t:Ty}{e:TypeId}{l':List t.den}(hx:RA c (.fn f .pnil) [a.eval x])(hargs:RAs c args (cl.args.toList.map a.eval))(hf:c.heap[fresh]? = some .none)(hm:ai2 P f t e args l') :
  Ok P B U J o a c (c.heap.set fresh (.row t e 1)) (.own fresh 1 t l'):=by
 obtain⟨⟨fn,f1,f2,f3⟩,hm⟩:=hm;obtain⟨cs,ee,hcs,_⟩:=hx;have hcs:cs=[]:=hcs;subst hcs;simp at ee;have hbody:¬fn.body=none:=by cases hb:fn.body <;> simp_all
 have f3:¬fn.name = "runtime.NumGoroutine":=by simpa using f3
 have hrun:(execOp a.eval o).run P c.w = .ok (.enter f (cl.args.toList.map a.eval).toArray) c.w:=by have e2:cl.args.map a.eval=(cl.args.toList.map a.eval).toArray:=E_ Ψ;unfold execOp;simp[ho,resolve,hcl,ee,Deferred.ofValue,invoke,callFunc,h?,f1,f3,hbody,e2]
 intro K Q h;unfold Oper.wp;rw[hrun];obtain⟨hI,hE⟩:=hi.addRow (k:=fresh) (n:=0) (t:=t) (e:=e) (s :=.slice none 0 0) (xs:=[]) hf (V_ _ _ _ _) (λb hb=>by simp[Value.ownBlock]at hb) (λk' b hb=>by simp[Value.ownBlock]at hb) (λb hb=>by simp[Value.ownBlock]at hb) (λb hb=>by simp[Value.ownBlock]at hb);have hk:(c.heap.set fresh (.row t e 0))[fresh]? = some (.row t e 0):=by rw[get_set,G' rfl,G' (ar hf)]
 refine(hm B U J _ hI fresh 0 hk _ (hargs.mono hE)).mono ?_;rintro _ w' ⟨r,c',rfl,hh,rfl,hI',hE',hr'⟩;exact h r c' (by rw[hh];simp) hI' (hE.trans hE') hr'
def agK (h:RAs c us []):us=[]:=by cases us with|nil=>rfl|cons _ _=>exact h.elim
def da (h:RAs c us [v]):∃u,us=[u]∧RA c u [v]:=by
 match us,h with
 |[u],⟨r,_⟩=>exact⟨u,rfl,r⟩
 |_::_::_,⟨_,h⟩=>exact h.elim
def vg {vs:List Value}(h:RAs c us (v::vs)):∃u r,us=u::r∧RA c u [v]∧RAs c r vs:=by
 match us,h with
 |u::r,⟨g,f⟩=>exact⟨u,r,rfl,g,f⟩
def gp {v' :Value}(h:RAs c us [v,v']):∃u f,us=[u,f]∧RA c u [v]∧RA c f [v']:=by obtain⟨u,r,rfl,l,j⟩:=vg h;obtain⟨f,rfl,g⟩:=da j;exact⟨u,f,rfl,l,g⟩
def Zv {v' v'' :Value}(h:RAs c us [v,v',v'']):∃u g f,us=[u,g,f]∧RA c u [v]∧RA c g [v']∧RA c f [v'']:=by obtain⟨u,r,rfl,C,p⟩:=vg h;obtain⟨g,f,rfl,l,j⟩:=gp p;exact⟨u,g,f,rfl,C,l,j⟩
def p0 {f:Type}{l:List f}{k:Nat}{x:f}(h:l[k]? = some x):l.set k x=l:=by
 apply M?;intro i;rw[get_set];split
 next e=>subst e;rw[G' (ar h),h]
 ·rfl
def aV (T:Specs)(op:Op)(C:List AV)(fresh:Nat)(f:List HO)(g:HO):List HO :=
 match cm T op C fresh with
 |some k=>f.set k g
 |none=>f
def oO {u:AV}{n:Int}(h:GW u=some n)(r:RA c u [v]):∃k,v = .int k n:=by
 cases u with
 |val t x=>
  cases t with
  |int k =>cases h;exact⟨k,eC r.val_inv⟩
  |_=>simp[GW]at h
 |_=>simp[GW]at h
def Br {g f:Option Operand}{r:List AV}{J P:Option Int}(h:CA g f r=some (J,P))(p:RAs c r ((g.toList++f.toList).map a.eval)):IB (g.map a.eval) J∧IB (f.map a.eval) P:=by
 cases g with
 |none=>
  cases f with
  |none =>have:=agK p;subst this;cases h;exact⟨apj,apj⟩
  |some y=>
   obtain⟨u,rfl,j⟩:=da p;simp[CA]at h;split at h
   next n l=>cases h;exact⟨apj,oO l j⟩
   ·cases h
 |some x=>
  cases f with
  |none=>
   obtain⟨u,rfl,j⟩:=da p;simp[CA]at h;split at h
   next n l=>cases h;exact⟨oO l j,apj⟩
   ·cases h
  |some y=>
   obtain⟨u,T,rfl,j,C⟩:=gp p;simp[CA]at h;split at h
   next n m l R=>cases h;exact⟨oO l j,oO R C⟩
   ·cases h
def dl {op:Op}{f:List HO}{g:HO}(h:∀k,cm T op C fresh=some k→f[k]? = some g):aV T op C fresh f g=f:=by
 unfold aV;split
 next k hk=>exact p0 (h k hk)
 ·rfl
set_option maxHeartbeats 1000000 in
def Ub (tk:TabOk P tab)(ts:SpecsOk P T)(hi:Inv B U J c)(hg:g=true)(hv:RAs c C (o.op.operands.toList.map a.eval)){ho:HO}
  (hho:∀k,cm T o.op C fresh=some k→c.heap[k]? = some ho) {out:AV} {ho':HO} (j:acs tab T o g C fresh ho=some (true,out,ho')):Ok P B U J o a c (aV T o.op C fresh c.heap ho') out:=by
 unfold acs at j;cases R:o.op with
 |move x =>simp[R,Op.operands]at j hv;obtain⟨u,rfl,hu⟩:=da (v:=a.eval x) hv;split at j <;> simp only[ι,I',reduceCtorEq]at j;rename_i hx;simp at hx;obtain⟨_,rfl,rfl⟩:=j;exact Vc hi (.inl R) (hx ▸ hu)
 |assign x =>simp[R,Op.operands]at j hv;obtain⟨u,rfl,hu⟩:=da (v:=a.eval x) hv;split at j <;> simp only[ι,I',reduceCtorEq]at j;rename_i hx;simp at hx;obtain⟨_,rfl,rfl⟩:=j;exact Vc hi (.inr R) (hx ▸ hu)
 |pick x y z=>
  simp only[R,Op.operands]at j hv;obtain⟨u,u',u'',rfl,h1,h2,h3⟩:=Zv (v:=a.eval x) (v':=a.eval y) (v'':=a.eval z) hv;split at j
  next cb p q hx=>
   simp only[n_,T_]at hx;obtain⟨rfl,rfl,rfl⟩:=hx;split at j
   ·rename_i t xx t' yy hp hq;split at j
    ·rename_i yy' hc;obtain⟨e,hyy⟩:=cast?_some hc;subst e;have hyy:yy'=yy:=hyy;subst hyy;simp only[ι,I',η]at j;obtain⟨⟨k1,k2⟩,rfl,rfl⟩:=j;refine LS hi R h1 (λhb=>?_) (λhb=>?_) hp hq
     ·exact xE h2 k1 (by simp[hg,hb])
     ·exact xE h3 k2 (by simp[hg,hb])
    ·cases j
   ·cases j
  ·cases j
 |alloc t=>
  simp only[R]at j hho;have hf:=hho fresh rfl;split at j
  ·split at j
   next τ ht=>simp only[ι,I']at j;obtain⟨_,rfl,rfl⟩:=j;exact Gc hi tk R hf ht
   ·split at j
    next n ht=>simp only[ι,I']at j;obtain⟨_,rfl,rfl⟩:=j;exact LZ hi tk R hf ht
    ·cases j
  ·cases j
 |box t x=>
  simp only[R,Op.operands]at j hv hho;have hf:=hho fresh rfl;obtain⟨u,rfl,hu⟩:=da (v:=a.eval x) hv;split at j
  next hx=>
   simp only[n_,T_]at hx;subst hx;split at j
   next hs=>simp only[ι,I']at j;obtain⟨_,rfl,rfl⟩:=j;exact SY hi R hf hu hs
   ·cases j
  ·cases j
 |load t x=>
  simp only[R,Op.operands]at j hv hho;obtain⟨u,rfl,hu⟩:=da (v:=a.eval x) hv;split at j
  next k off cells hx=>
   simp only[n_,T_]at hx;subst hx;have hk:c.heap[k]? = some (.box cells):=hho k rfl;have hsame:aV T (.load t x) [.box k off] fresh c.heap (.box cells)=c.heap:=by
    show c.heap.set k _=_;exact p0 hk
   split at j
   ·rename_i τ ht;split at j
    ·rename_i hst;split at j
     ·rename_i h1;simp only[ι,I']at j;obtain⟨_,rfl,rfl⟩:=j;rw[hsame];unfold aeH at h1;split at h1
      next n hn=>simp only[η]at h1;exact Pc hi tk R hu hk ht hst hn (κ h1.1) h1.2
      ·cases h1
     ·split at j
      next y hy=>simp only[ι,I']at j;obtain⟨_,rfl,rfl⟩:=j;rw[hsame];exact F9 hi tk R hu hk ht hy
      ·cases j
    ·rename_i hs;split at j
     next u' hu'=>simp only[ι,I']at j;obtain⟨_,rfl,rfl⟩:=j;rw[hsame];obtain⟨i,z,_,_,_,_,_,_,hund⟩:=tk.ty t τ ht;obtain⟨d,hd,hn⟩:=EP (by simpa using hs) hund;exact Aa hi R hu hk hd hn hu'
     ·cases j
   ·rename_i ht;split at j
    ·rename_i hc;split at j
     next u' hu'=>simp only[ι,I']at j;obtain⟨_,rfl,rfl⟩:=j;rw[hsame];obtain⟨i,z,d,_,_,_,_,hd,hn⟩:=tk.cells t 1 hc;exact Aa hi R hu hk hd (hn ht rfl) hu'
     ·cases j
    ·cases j
  next τ y hx=>
   simp only[n_,T_]at hx;subst hx;split at j
   next ht=>simp only[ι,I']at j;obtain⟨_,rfl,rfl⟩:=j;exact Pb hi tk R hu ht
   ·cases j
  ·cases j
 |store t x y=>
  simp only[R,Op.operands]at j hv hho;obtain⟨u,u',rfl,h1,h2⟩:=gp (v:=a.eval x) (v':=a.eval y) hv;split at j
  next k off v cells hx=>
   simp only[n_,T_]at hx;obtain⟨rfl,rfl⟩:=hx;have hk:c.heap[k]? = some (.box cells):=hho k rfl;split at j
   next hs=>simp only[η,Δ]at hs;simp only[ι,I']at j;obtain⟨_,rfl,rfl⟩:=j;exact F8 hi tk R h1 h2 hk hs.1.1 hs.1.2 hs.2
   ·cases j
  ·cases j
 |fieldAddr s x f=>
  simp only[R,Op.operands]at j hv;obtain⟨u,rfl,hu⟩:=da (v:=a.eval x) hv;split at j
  next k off hx=>
   simp only[n_,T_]at hx;subst hx;split at j
   next d hd=>simp only[ι,I']at j;obtain⟨_,rfl,rfl⟩:=j;exact B6 hi tk R hu hd
   ·cases j
  next τ y hx=>
   simp only[n_,T_]at hx;subst hx;split at j
   ·rename_i ht;split at j
    next τ' y' hp=>simp only[ι,I']at j;obtain⟨_,rfl,rfl⟩:=j;exact B4 hi tk R hu ht hp
    ·cases j
   ·cases j
  ·cases j
 |field s x f=>
  simp only[R,Op.operands]at j hv;obtain⟨u,rfl,hu⟩:=da (v:=a.eval x) hv;split at j
  next τ y hx=>
   simp only[n_,T_]at hx;subst hx;split at j
   ·rename_i ht;split at j
    next τ' y' hp=>simp only[ι,I']at j;obtain⟨_,rfl,rfl⟩:=j;exact aaZ hi tk R hu ht hp
    ·cases j
   ·cases j
  ·cases j
 |indexAddr t x y=>
  simp only[R,Op.operands]at j hv;obtain⟨u,u',rfl,h1,h2⟩:=gp (v:=a.eval x) (v':=a.eval y) hv;split at j
  next k off q n hx=>
   simp only[n_,T_]at hx;obtain⟨rfl,rfl⟩:=hx;split at j
   next m hm=>simp only[ι,I',η,Δ]at j;obtain⟨⟨k1,k2⟩,rfl,rfl⟩:=j;rw[dl (by simpa only[R]using hho)];exact LV hi tk R h1 h2 hm k1 k2
   ·cases j
  next s k n _ hx=>
   simp only[n_,T_]at hx;obtain⟨rfl,rfl⟩:=hx;split at j
   next τ l hl=>simp only[ι,I',η,Δ]at j;obtain⟨⟨k1,k2⟩,rfl,rfl⟩:=j;rw[dl (by simpa only[R]using hho)];exact LW hi tk R h1 h2 hl k1 k2
   ·cases j
  ·cases j
 |index t x y=>
  simp only[R,Op.operands]at j hv;obtain⟨u,u',rfl,h1,h2⟩:=gp (v:=a.eval x) (v':=a.eval y) hv;split at j
  next s k n hx=>
   simp only[n_,T_]at hx;obtain⟨rfl,rfl⟩:=hx;split at j
   next l hl=>simp only[ι,I',η,Δ]at j;obtain⟨⟨k1,k2⟩,rfl,rfl⟩:=j;exact LU hi tk R h1 h2 hl k1 k2
   ·cases j
  ·cases j
 |binOp op tx x y ty=>
  simp only[R,Op.operands]at j hv;obtain⟨u,u',rfl,h1,h2⟩:=gp (v:=a.eval x) (v':=a.eval y) hv;simp only at j;split at j
  next cb v hb=>
   simp only[ι,I']at j;obtain⟨rfl,rfl,rfl⟩:=j;have hb':=hb;unfold uZ at hb;split at hb
   ·split at hb
    ·simp only[ι,I',Δ]at hb;obtain⟨hn,rfl⟩:=hb;exact(O8 hi R h1 h2 hn).1 rfl
    ·simp only[ι,I',Δ]at hb;obtain⟨hn,rfl⟩:=hb;exact(O8 hi R h1 h2 hn).2 rfl
    ·split at hb
     next hk=>subst hk;exact S3 hi R h1 h2 hb
     ·cases hb
   ·exact SZ hi R h1 h2 hb'
   ·exact Pf hi tk R h1 h2 hb'
   ·exact Ij hi tk R h1 h2 hb'
   ·cases hb
  ·cases j
 |unOp op t x=>
  simp only[R,Op.operands]at j hv;obtain⟨u,rfl,hu⟩:=da (v:=a.eval x) hv;cases op <;> simp only at j <;> first|(cases j;done)|skip
  all_goals split at j
  all_goals first|(cases j;done)|skip
  all_goals
   rename_i hx;simp only[n_,T_]at hx;subst hx;simp only[ι,I']at j;obtain⟨_,rfl,rfl⟩:=j;exact ahK hi R hu
 |convert s t x=>
  simp only[R,Op.operands]at j hv;obtain⟨u,rfl,hu⟩:=da (v:=a.eval x) hv;split at j
  next k' n k τ hx ht hts=>
   simp only[n_,T_]at hx;subst hx;simp only[ι,I']at j;obtain⟨_,rfl,rfl⟩:=j;obtain⟨i,z,hin,_⟩:=tk.ty s _ hts;refine Pe hi tk R hu ht ?_;obtain⟨_,_,_,_,_,_,_,_,hund⟩:=tk.ty s _ hts;cases hs:τ.isStruct with
   |true=>obtain⟨fs,hf,_⟩:=gw hs hund;exact⟨_,hf⟩
   |false=>obtain⟨d,hd,_⟩:=EP hs hund;exact⟨_,hd⟩
  next x2 hx ht hts=>
   simp only[n_,T_]at hx;subst hx;split at j
   next l hl=>simp only[ι,I']at j;obtain⟨_,rfl,rfl⟩:=j;exact Ig hi tk R hu hl ht hts
   ·cases j
  ·cases j
 |build t parts=>
  simp only[R,Op.operands]at j hv;split at j
  next τ ht=>
   split at j
   ·rename_i hs;split at j
    ·rename_i hc;unfold ajk at hc;split at hc
     next n hn=>simp only[η,Δ,e_,C']at hc;simp only[ι,I']at j;obtain⟨_,rfl,rfl⟩:=j;exact Ih hi tk R hv ht hn hc.1.1 hc.1.2 hc.2
     ·cases hc
    ·split at j
     next y hy=>simp only[ι,I']at j;obtain⟨_,rfl,rfl⟩:=j;exact Ae hi tk R hv ht hs hy
     ·cases j
   ·cases j
  ·split at j
   ·rename_i n hn;split at j
    next hs=>simp only[η]at hs;simp only[ι,I']at j;obtain⟨_,rfl,rfl⟩:=j;exact LY hi tk R hv hn (κ hs.1.1) hs.1.2 hs.2
    ·cases j
   ·split at j
    ·rename_i n hn;split at j
     next hs=>simp only[η]at hs;simp only[ι,I']at j;obtain⟨_,rfl,rfl⟩:=j;exact LX hi tk R hv hn (κ hs.1.1) hs.1.2 hs.2
     ·cases j
    ·cases j
 |buildSlice t len parts=>
  simp only[R,Op.operands]at j hv hho;have hf:=hho fresh rfl;split at j
  next τ e ht hel=>
   split at j
   ·rename_i hs;simp only[η,Δ]at hs;split at j
    ·rename_i l hl;split at j
     ·simp only[ι,I']at j;obtain⟨_,rfl,rfl⟩:=j;exact Ii hi tk R hv ht hel hs.1.1 hs.1.2 hs.2 hl hf
     next hz=>simp only[ι,I']at j;obtain⟨_,rfl,rfl⟩:=j;have h0:len=0:=κ (akl.1 hz).2;exact DE hi tk (by rw[R,h0]) (hs.1.1.symm.trans h0) ht hel hf
    ·cases j
   ·cases j
  ·cases j
 |slice t x low high mx=>
  cases mx with
  |some m=>simp[R]at j
  |none=>
   simp only[R,Op.operands]at j hv;obtain⟨s,r,rfl,h1,h2⟩:=vg (v:=a.eval x) (vs:=(low.toList++high.toList).map a.eval) (by cases low <;> cases high <;> simpa using hv);simp only at j;split at j
   ·rename_i lo hi' hb;obtain⟨b1,b2⟩:=Br hb h2;split at j
    next τ l hl=>simp only[ι,I']at j;obtain⟨k1,rfl,rfl⟩:=j;rw[dl (by simpa only[R]using hho)];exact aaW hi tk R h1 b1 b2 hl k1
    ·split at j
     next l hl=>simp only[ι,I']at j;obtain⟨k1,rfl,rfl⟩:=j;rw[dl (by simpa only[R]using hho)];exact LR hi tk R h1 b1 b2 hl k1
     ·cases j
   ·cases j
 |extract x i=>
  simp only[R,Op.operands]at j hv;obtain⟨u,rfl,hu⟩:=da (v:=a.eval x) hv;split at j
  next p hx=>
   simp only[n_,T_]at hx;subst hx;split at j
   next u' hp=>simp only[ι,I']at j;obtain⟨_,rfl,rfl⟩:=j;exact SW hi R hu hp
   ·cases j
  ·cases j
 |call cl=>
  simp only[R,Op.operands]at j hv hho;cases hcl:cl.callee with
  |invoke r m=>simp[hcl]at j
  |value x=>
   simp only[hcl]at j;have hv:RAs c C (a.eval x::cl.args.toList.map a.eval):=by simpa[Call.operands,hcl]using hv
   obtain⟨u,r,rfl,h1,h2⟩:=vg hv;split at j
   ·rename_i hnw;split at j
    ·rename_i f args hx;simp only[n_]at hx;obtain⟨rfl,rfl⟩:=hx;split at j
     ·rename_i q hq;split at j
      ·rename_i b l' hF;simp only[ι,I']at j;obtain⟨rfl,rfl,rfl⟩:=j;have htch:cm T (.call cl) (.fn f .pnil::r) fresh=some fresh:=by simp only[cm,hcl,hnw]
       have hf:=hho fresh htch;have hh:∀y,aV T (.call cl) (.fn f .pnil::r) fresh c.heap y=c.heap.set fresh y:=λy=>by unfold aV;rw[htch]
       rw[hh];exact ahL hi R hcl h1 h2 hf (ts.nw f _ hq r l' hF)
      ·cases j
     ·cases j
    ·cases j
   ·rename_i hnw;split at j
    ·rename_i f args hx;simp only[n_]at hx;obtain⟨rfl,rfl⟩:=hx;split at j
     ·rename_i b v hT;simp only[ι,I']at j;obtain⟨rfl,rfl,rfl⟩:=j;have hm:=ts.call f r _ hT;have:aV T (.call cl) (.fn f .pnil::r) fresh c.heap ho=c.heap:=by
       have ht:cm T (.call cl) (.fn f .pnil::r) fresh=none:=by simp only[cm,hcl,hnw]
       simp only[aV,ht]
      rw[this];exact aeY hi R hcl h1 h2 hm
     ·cases j
    ·cases j
  |builtin b=>
   simp only[hcl]at j;have hv:RAs c C (cl.args.toList.map a.eval):=by simpa[Call.operands,hcl]using hv
   cases b <;> simp only at j <;> first|(cases j;done)|skip
   case max=>
    have hh:aV T (.call cl) C fresh c.heap ho=c.heap:=dl hho;split at j
    ·rename_i k x k' y _;split at j
     ·rename_i hkk;subst hkk;simp only[ι,I',true_and]at j;obtain⟨rfl,rfl⟩:=j;rw[hh];have hal:∃p q,cl.args = #[p,q]:=by
       have:=hv.length;simp at this;match h:cl.args.toList,(by simpa using this.symm:cl.args.toList.length=2)with
       |[p,q],_=>exact⟨p,q,E_ (by simpa using h)⟩
      obtain⟨p,q,hpq⟩:=hal;rw[hpq]at hv;obtain⟨u,u',e,h1,h2⟩:=gp (v:=a.eval p) (v':=a.eval q) hv;simp only[n_,T_]at e;obtain⟨rfl,rfl⟩:=e;have hpv:=eC h1.val_inv;have hqv:=eC h2.val_inv;refine aA hi (v :=.int k (ut x y)) ?_ (fG _ _);unfold execOp;simp[R,resolve,hcl,hpq,invoke,builtin,Builtin.max_,Builtin.max2,hpv,hqv,ut]
     ·cases j
    ·cases j
   case len=>
    have hh:aV T (.call cl) C fresh c.heap ho=c.heap:=dl hho;split at j
    ·rename_i s;have hal:∃x,cl.args = #[x]:=by
      have:=hv.length;simp at this;exact amh.1 this.symm
     obtain⟨x,hx⟩:=hal;rw[hx]at hv;obtain⟨u,e,hu⟩:=da (v:=a.eval x) hv;simp only[n_,T_]at e;subst e;cases hty:cl.argTypes[0]? with
     |none =>rw[hty]at j;simp[zr,zo]at j
     |some t=>
      rw[hty]at j;simp only[Option.bind_some]at j;split at j
      next τ l hl=>simp only[ι,I']at j;obtain⟨_,rfl,rfl⟩:=j;rw[hh];exact ahQ hi tk R hcl hx hty hu hl
      ·split at j
       next l hl=>simp only[ι,I']at j;obtain⟨_,rfl,rfl⟩:=j;rw[hh];exact SV hi tk R hcl hx hty hu hl
       ·cases j
    ·cases j
   case append=>
    split at j
    ·rename_i s x t1 t2 htys _;have hty:cl.argTypes = #[t1,t2]:=E_ (by simpa using htys);have hal:∃p q,cl.args = #[p,q]:=by
      have:=hv.length;simp at this;match h:cl.args.toList,(by simpa using this.symm:cl.args.toList.length=2)with
      |[p,q],_=>exact⟨p,q,E_ (by simpa using h)⟩
     obtain⟨p,q,hpq⟩:=hal;rw[hpq]at hv;obtain⟨u,u',e,h1,h2⟩:=gp (v:=a.eval p) (v':=a.eval q) hv;simp only[n_,T_]at e;obtain⟨rfl,rfl⟩:=e;split at j
     ·rename_i e12;subst e12;split at j
      ·rename_i e τ l' hel hl;split at j
       ·rename_i k v t l _;split at j
        ·rename_i t' e' v';split at j
         ·rename_i q1;split at j
          ·rename_i q2;split at j
           ·rename_i q3;split at j
            ·rename_i l2 hc;obtain⟨et,hl2⟩:=cast?_some hc;injection et with et;subst et;have hl2:l2=l:=hl2;subst hl2;subst q1;subst q2;subst q3;simp only[ι,I',Δ]at j;obtain⟨k1,rfl,rfl⟩:=j;have htch:cm T (.call cl) [.own k v' t' l2,x] fresh=some k:=by simp only[cm,hcl]
             have hk:=hho k htch;have hh:aV T (.call cl) [.own k v' t' l2,x] fresh c.heap (.row t' e' (v'+1))=c.heap.set k (.row t' e' (v'+1)):=by unfold aV;rw[htch]
             rw[hh];exact XU hi tk R hcl hpq hty h1 h2 hl hel hk k1
            ·cases j
           ·cases j
          ·cases j
         ·cases j
        ·cases j
       ·split at j
        ·split at j
         ·simp only[ι,I',Δ]at j;obtain⟨k1,rfl,rfl⟩:=j;have htch:cm T (.call cl) [.nil,x] fresh=some fresh:=by simp only[cm,hcl]
          have hf:=hho fresh htch;have hh:aV T (.call cl) [.nil,x] fresh c.heap (.row τ e 1)=c.heap.set fresh (.row τ e 1):=by unfold aV;rw[htch]
          rw[hh];exact Ik hi tk R hcl hpq hty h1 h2 hl hel hf k1
         ·rename_i l2 _ _ _;simp only[ι,I',Δ]at j;obtain⟨k1,rfl,rfl⟩:=j;have htch:cm T (.call cl) [.nil,x] fresh=some fresh:=by simp only[cm,hcl]
          have hf:=hho fresh htch;have hh:∀y,aV T (.call cl) [.nil,x] fresh c.heap y=c.heap.set fresh y:=λy=>by unfold aV;rw[htch]
          rw[hh];exact Gb hi tk R hcl hpq hty h1 h2 hl hel hf k1
        ·cases j
       ·cases j
      ·cases j
     ·cases j
    ·cases j
 |_=>simp[R]at j
def T9 (tk:TabOk P tab)(hi:Inv B U J c)(hv:RAs c C (o.op.operands.toList.map a.eval)){ho:HO}
  (R:∀k,cm T o.op C fresh=some k→c.heap[k]? = some ho) {out:AV} {ho':HO} (g:acr tab o C ho=some (true,out,ho')):Ok P B U J o a c (aV T o.op C fresh c.heap ho') out:=by
 unfold acr at g;split at g
 next τ e v' l=>
  have j:∀k,cm T o.op C fresh=some k→aV T o.op C fresh c.heap (.mrow τ e v' l)=c.heap:=λk hk=>by
   unfold aV;rw[hk];exact p0 (R k hk)
  have after:∀k ho',cm T o.op C fresh=some k→aV T o.op C fresh c.heap ho'=c.heap.set k ho':=λk ho' hk=>by unfold aV;rw[hk]
  split at g
  next t x y hop=>
   rw[hop]at hv R j;split at g
   ·rename_i k v lo hi' q n;obtain⟨u,u',e1,h1,h2⟩:=gp (v:=a.eval x) (v':=a.eval y) hv;cases e1;split at g
    ·rename_i q1;subst q1;split at g
     ·rename_i q2;split at g
      ·simp at g;obtain⟨⟨k1,k2⟩,rfl,rfl⟩:=g;rw[hop,j k rfl];exact ST hi tk hop h1 h2 (R k rfl) q2 k1 k2
      ·cases g
     ·cases g
    ·cases g
   ·cases g
  next s x f hop=>
   rw[hop]at hv R j;split at g
   ·rename_i k v i off;obtain⟨u,e1,h1⟩:=da (v:=a.eval x) hv;cases e1;split at g
    ·rename_i q1;subst q1;split at g
     next d hd=>cases g;rw[hop,j k rfl];exact SU hi tk hop h1 (R k rfl) hd
     ·cases g
    ·cases g
   ·cases g
  next t x hop=>
   rw[hop]at hv R j;split at g
   ·rename_i k v i off;obtain⟨u,e1,h1⟩:=da (v:=a.eval x) hv;cases e1;split at g
    ·rename_i q1;subst q1;split at g
     ·rename_i τ' ht;split at g
      next y hy=>cases g;rw[hop,j k rfl];exact XT hi tk hop h1 (R k rfl) ht hy
      ·cases g
     ·cases g
    ·cases g
   ·cases g
  next t x y hop=>
   rw[hop]at hv R after;split at g
   ·rename_i k v i off u;obtain⟨u1,u2,e1,h1,h2⟩:=gp (v:=a.eval x) (v':=a.eval y) hv;cases e1;split at g
    ·rename_i q1;subst q1;split at g
     ·rename_i τ' ht;split at g
      ·rename_i d hd;split at g
       next z hz=>cases g;rw[hop,after k _ rfl];exact SR hi tk hop h1 h2 (R k rfl) ht hd hz
       ·cases g
      ·cases g
     ·cases g
    ·cases g
   ·cases g
  next t x low high hop=>
   rw[hop]at hv R j;split at g
   ·rename_i k v lo hi' r;obtain⟨s,r',e1,h1,h2⟩:=vg (v:=a.eval x) (vs:=(low.toList++high.toList).map a.eval) (by cases low <;> cases high <;> simpa[Op.operands]using hv);cases e1;split at g
    ·rename_i q1;subst q1;split at g
     ·rename_i q2;split at g
      ·split at g
       next a1 b1 hb=>obtain⟨g1,g2⟩:=Br hb h2;simp at g;obtain⟨k1,rfl,rfl⟩:=g;rw[hop,j k rfl];exact SS hi tk hop h1 (R k rfl) q2 g1 g2 k1
       ·cases g
      ·cases g
     ·cases g
    ·cases g
   ·cases g
  next cl hop=>
   rw[hop]at hv R j after;split at g
   ·rename_i hcl;replace hv:RAs c C (cl.args.toList.map a.eval):=by simpa[Op.operands,Call.operands,hcl]using hv
    split at g
    ·rename_i k v lo hi';have hal:∃x,cl.args = #[x]:=by
      have:=hv.length;simp at this;exact amh.1 this.symm
     obtain⟨x,hx⟩:=hal;rw[hx]at hv;obtain⟨u,e1,hu⟩:=da (v:=a.eval x) hv;cases e1;have htch:cm T (.call cl) [.msl k v lo hi'] fresh=some k:=by simp[cm,hcl]
     split at g
     ·rename_i q1;subst q1;split at g
      ·rename_i q2;cases g;rw[hop,j k htch];cases hty:cl.argTypes[0]? with
       |none=>rw[hty]at q2;cases q2
       |some t =>rw[hty]at q2;exact aaY hi tk hop hcl hx hty hu (R k htch) q2
      ·cases g
     ·cases g
    ·cases g
   ·rename_i hcl;replace hv:RAs c C (cl.args.toList.map a.eval):=by simpa[Op.operands,Call.operands,hcl]using hv
    split at g
    ·rename_i k v m x t1 t2 htys;have hty:cl.argTypes = #[t1,t2]:=E_ (by simpa using htys);have hal:∃p q,cl.args = #[p,q]:=by
      have:=hv.length;simp at this;match h:cl.args.toList,(by simpa using this.symm:cl.args.toList.length=2)with
      |[p,q],_=>exact⟨p,q,E_ (by simpa using h)⟩
     obtain⟨p,q,hpq⟩:=hal;rw[hpq]at hv;obtain⟨u,u',e1,h1,h2⟩:=gp (v:=a.eval p) (v':=a.eval q) hv;cases e1;have htch:cm T (.call cl) [.msl k v 0 m,x] fresh=some k:=by simp[cm,hcl]
     split at g
     ·rename_i e12;subst e12;split at g
      ·rename_i q1;subst q1;split at g
       ·rename_i e1 τ1 l' hel hl;split at g
        ·rename_i q2;subst q2;split at g
         next l2 hc=>obtain⟨et,hl2⟩:=cast?_some hc;cases et;have hl2:l2=l':=hl2;subst hl2;simp at g;obtain⟨k1,rfl,rfl⟩:=g;rw[hop,after k _ htch];obtain⟨ht,hxv⟩:=gy hl h2;exact Pa hi tk hop hcl hpq hty h1 ht (DL hxv) hel (R k htch) k1
         ·cases g
        ·cases g
       ·cases g
      ·cases g
     ·cases g
    ·cases g
   ·cases g
  ·cases g
 ·cases g
def Ka (p:TabOk P tab)(ts:SpecsOk P T)(hi:Inv B U J c)(hg:g=true)(R:RAs c C (o.op.operands.toList.map a.eval)){ho:HO}
  (j:∀k,cm T o.op C fresh=some k→c.heap[k]? = some ho) {out:AV} {f:HO} (l:eff tab T o g C fresh ho=some (true,out,f)):Ok P B U J o a c (aV T o.op C fresh c.heap f) out:=by
 unfold eff at l;split at l
 next r hr=>cases l;exact T9 p hi R j hr
 ·exact Ub p ts hi hg R j l
def Ua (p:TabOk P tab)(r:Inv B U J c)(j:RAs c C (o.op.operands.toList.map a.eval)){out:AV}(f:aiy tab o C=some out):Ok P B U J o a c c.heap out:=by
 unfold aiy at f;split at f
 next t len parts hop=>
  rw[hop]at j;simp[Op.operands]at j;split at f
  next τ e ht hel=>
   split at f
   ·rename_i g;simp at g;split at f
    next l hl=>cases f;exact Ad r p hop (by simpa using j) ht hel g.1.1 g.1.2 g.2 hl
    ·cases f
   ·cases f
  ·cases f
 ·cases f
end
