/- Calls by contract. -/
import Derived.Test.YtfgpipfjalmooaaGreatAbsJ
import Derived.Laws.MakeOwn
import Derived.Laws.BytesString
set_option linter.all false
namespace Go.Proofs.YtfgpipfjalmooaaGreat
namespace Abs
open Go Go.RowKit
section
variable {P:Program}{tab:Tab}{B:Bd}{U:World}{C:Sb}{c:Gh}{o:Oper}{a:Act}
variable{k v lo hi i off size n cap fresh:Nat}{s:Value}{τ:Ty}{e t:TypeId}{x y:Operand}{w:World}{St:Sb}{u:AV}{A:Option Addr}{cl:Call}
def dL {l:List τ.den}(h:RA c (.msl k v lo hi) [s])(g:c.heap[k]? = some (.mrow τ e v l)):rW (c.rv k) τ.size lo hi s:=by
 obtain⟨C,p,_,m⟩:=h;cases p;rcases m with⟨t,P,r,J,f,_,j⟩|f
 ·rw[g]at f;injection f with f;injection f with q1 q2 q3 q4;subst q1;exact j q3.symm
 ·rw[g]at f;cases f
def E1 {l:List τ.den}(h:RA c (.mpt k v i off) [s])(g:c.heap[k]? = some (.mrow τ e v l)):ptS (c.rv k) τ.size i off s:=by
 obtain⟨C,p,_,m⟩:=h;cases p;rcases m with⟨t,P,r,J,f,_,j⟩|f
 ·rw[g]at f;injection f with f;injection f with q1 q2 q3 q4;subst q1;exact j q3.symm
 ·rw[g]at f;cases f
def XW {r:Value}(h:rW r size lo hi s):s.oneCell'=true:=by rcases h with⟨_,_,_,rfl⟩|⟨_,_,_,_,_,_,_,rfl,_⟩ <;> rfl
def sQ {l:List τ.den}(f:c.heap[k]? = some (.mrow τ e v l))(h:rW (c.rv k) τ.size lo hi s):RA c (.msl k v lo hi) [s] :=
 ⟨s,rfl,XW h,.inl ⟨τ,e,v,l,f,ζ _,λ_=>h⟩⟩
def Yy {l:List τ.den}(f:c.heap[k]? = some (.mrow τ e v l))(h:ptS (c.rv k) τ.size i off s):RA c (.mpt k v i off) [s] :=
 ⟨s,rfl,by obtain⟨_,_,_,_,_,rfl⟩:=h;rfl,.inl ⟨τ,e,v,l,f,ζ _,λ_=>h⟩⟩
def dR {l:List τ.den}(hi:Inv B U C c)(hk:c.heap[k]? = some (.mrow τ e v l)){g:Nat}(J:c.rv k = .slice (some ⟨g,0,none⟩) n cap) :
  n=l.length∧∃f r,c.w.heap[g]? = some (.cells f e (0,0))∧n≤cap∧cap≤maxLen∧f.size=cap*τ.size∧f.toList.take (n*τ.size)=r∧Rep c.w c.St (chain (toD τ) l) r∧(∀o,¬c.St g o)∧B≤g:=by
 obtain⟨r,T,j,P⟩:=hi.mrow k τ e v l hk;rcases T.2 with⟨p,_⟩|⟨g',R,f,p,h2,h3,h4,h5,h6,h7⟩
 ·rw[J]at p;cases p
 ·rw[J]at p;injection p with q1 q2 q3;cases q1;subst q2;subst q3;exact⟨rfl,f,r,h3,h4,h5,h6,h7,j,P g (by rw[J];rfl),h2⟩
def QM (hi:Inv B U C c)(R:TabOk P tab)(ho:o.op = .indexAddr t x y){j :Nat}{q:IntKind}{n:Int}{l:List τ.den}(hx:RA c (.msl k v lo j) [a.eval x])(hy:RA c (.val (.int q) n) [a.eval y])
  (J:c.heap[k]? = some (.mrow τ e v l)) (ht:tab.ty t=some (.slice τ)) (h0:0≤n) (h1:n<((j-lo:Nat):Int)):Ok P B U C o a c c.heap (.mpt k v (lo+n.toNat) 0):=by
 obtain⟨i,z,_,_,_,_,_,_,hu⟩:=R.ty t _ ht;obtain⟨e',he,r,hel',hpos⟩:=hu;rcases dL hx J with⟨_,h2,h3,_⟩|⟨g,m,cap,A,T,hle,hm,hs,f⟩
 ·omega
 ·obtain⟨rfl,cur,xs,_,hnc,_⟩:=dR hi J T;have f:A=some ⟨g,lo*τ.size,none⟩:=by
   obtain f|f:=f
   ·exact f
   ·omega
  subst f;refine aq hi (v :=.pointer (some ((⟨g,lo*τ.size,none⟩:Addr).add (n.toNat*τ.size)))) ?_ (Yy J ⟨g,_,cap,T,Ω, ?_⟩)
  ·have p:=cU hy.val_inv;unfold execOp;simp[ho,hs,p];simp[Instr.indexAt,asIntOf,η he,h0,h1,aA R r]
  ·rw[dl,T_];rfl
def QN (hi:Inv B U C c)(J:TabOk P tab){s:TypeId}{f:Nat}(ho:o.op = .fieldAddr s x f){d:Nat}{l:List τ.den}(R:RA c (.mpt k v i off) [a.eval x])
  (r:c.heap[k]? = some (.mrow τ e v l)) (hd:tab.offs s f=some d):Ok P B U C o a c c.heap (.mpt k v i (off+d)):=by
 obtain⟨g,n,cap,T,p,hp⟩:=E1 R r;obtain⟨fs,fl,j,h1,h2,h3,h4,h5⟩:=J.offs s f d hd;refine aq hi (v :=.pointer (some ⟨g,i*τ.size+(off+d),none⟩)) ?_ (Yy r ⟨g,n,cap,T,p,rfl⟩);unfold execOp;have hj:¬j.size=0:=Ω
 simp[ho,hp,Instr.fieldAt,η h1,h2,Instr.sureAddr,fieldPlace,sizeOf,typeInfo,h4,hj,dl,h3,F_]
def UQ:∀{t:Ty} {x:t.den} {off:Nat} {y:τ.den} {l:List Value},vZ τ t x off=some y→Rep w St (toD t x) l→off+τ.size≤l.length∧Rep w St (toD τ y) ((l.drop off).take τ.size):=by
 intro t;induction t with
 |cons A R j p=>
  intro x off y l h r;cases off with
  |zero=>
   unfold vZ at h;split at h
   next y' f=>obtain⟨e,f⟩:=cast?_some f;subst e;subst f;cases h;have:=r.size;refine⟨Ω, ?_⟩;rw[aiM,←this,V_];exact r
   ·obtain⟨c1,c2,rfl,r1,C⟩:=r;obtain⟨J,g⟩:=j h r1;refine⟨by simp;omega, ?_⟩;rw[aiM]at g⊢;rw[ajb Ω];exact g
  |succ n=>
   simp[vZ]at h;obtain⟨c1,c2,rfl,r1,C⟩:=r;have P:=r1.size;split at h
   next hlt=>obtain⟨J,g⟩:=j h r1;refine⟨by simp;omega, ?_⟩;rw[ajc Ω,ajb Ξ];exact g
   next hlt=>obtain⟨J,g⟩:=p h C;refine⟨by simp;omega, ?_⟩;rw[List.drop_append,ajA Ω,s_,P];exact g
 |_=>
  intro x off y l h r;cases off with
  |zero=>
   unfold vZ at h;split at h
   next y' f=>obtain⟨e,f⟩:=cast?_some f;subst e;subst f;cases h;have:=r.size;refine⟨Ω, ?_⟩;rw[aiM,←this,V_];exact r
   ·cases h
  |succ n=>simp[vZ]at h
def U5 {y:τ.den}{j:List Value}(T:Rep w St (toD τ y) j):∀{t:Ty} {x z:t.den} {off:Nat} {g:List Value},v8 τ y t x off=some z→Rep w St (toD t x) g →
  off+j.length≤g.length∧Rep w St (toD t z) (g.take off++j++g.drop (off+j.length)):=by
 have C:=T.size;intro t;induction t with
 |cons A Bt l R=>
  intro x z off g h r;cases off with
  |zero=>
   unfold v8 at h;split at h
   next y' f=>obtain⟨e,f⟩:=cast?_some f;subst e;subst f;cases h;have:=r.size;refine⟨Ω, ?_⟩;rw[s?,s_,b_,C,←this,List.drop_length,F?];exact T
   ·simp only at h;split at h
    next z' p=>cases h;obtain⟨c1,c2,rfl,r1,P⟩:=r;obtain⟨h1,J⟩:=l p r1;refine⟨by simp;omega,_,c2, ?_,J,P⟩;simp only[s?,s_,b_]at *;rw[ajc Ω,D_]
    ·cases h
  |succ n=>
   simp[v8]at h;obtain⟨c1,c2,rfl,r1,P⟩:=r;have hs:=r1.size;split at h
   ·rename_i U;split at h
    next z' p=>cases h;obtain⟨h1,J⟩:=l p r1;refine⟨by simp;omega,_,c2, ?_,J,P⟩;rw[ajb Ω,ajc Ω];simp
    ·cases h
   ·rename_i U;split at h
    ·rename_i z' p;cases h;obtain⟨h1,J⟩:=R p P;refine⟨by simp;omega,c1,_, ?_,r1,J⟩;rw[List.take_append,List.drop_append,f? Ω,ajA Ω,s_,hs,D_,D_,D_,
      show n+1+j.length-A.size=n+1-A.size+j.length by omega]
    ·cases h
 |_=>
  intro x z off g h r;cases off with
  |zero=>
   unfold v8 at h;split at h
   next y' f=>obtain⟨e,f⟩:=cast?_some f;subst e;subst f;cases h;have:=r.size;refine⟨Ω, ?_⟩;rw[s?,s_,b_,C,←this,List.drop_length,F?];exact T
   ·cases h
  |succ n=>simp[v8]at h
def I0 {w:World}{St:Sb}{t:Ty}:∀{l:List t.den} {f:List Value} {i:Nat} {z:t.den} {g:List Value},Rep w St (chain (toD t) l) f→i<l.length→Rep w St (toD t z) g →
  Rep w St (chain (toD t) (l.set i z)) (f.take (i*t.size)++g++f.drop (i*t.size+t.size))
 |x::l,f,0,z,g,h,_,p=>by obtain⟨c1,c2,rfl,j,C⟩:=h;have r:=j.size;refine⟨g,c2, ?_,p,C⟩;rw[aiO,s?,s_,b_,←r,ajm]
 |x::l,f,i+1,z,g,h,hi,p=>by obtain⟨c1,c2,rfl,j,C⟩:=h;have r:=j.size;have:=I0 C (by simpa using hi) p;refine⟨c1,_, ?_,j,this⟩;rw[show(i+1)*t.size=c1.length+i*t.size by rw[T_,r];omega,F_,ajj,b?,D_,D_,D_]
def On {f:Type}{l:List f}{d:f}(h:i<l.length):l.getD i d=l[i]:=by simp[List.getD,ε h]
def Vs (hi:Inv B U C c)(tk:TabOk P tab)(ho:o.op = .load t x){f :Ty}{l:List τ.den}{y:f.den}(hx:RA c (.mpt k v i off) [a.eval x])
  (hk:c.heap[k]? = some (.mrow τ e v l)) (ht:tab.ty t=some f) (hy:vZ f τ (l.getD i (zero τ)) off=some y):Ok P B U C o a c c.heap (.val f y):=by
 obtain⟨g,n,cap,hr,hin,hp⟩:=E1 hx hk;obtain⟨rfl,cur,xs,hg,hnc,_,hcs,htk,J,_⟩:=dR hi hk hr;have he:=tU J i hin;rw[On hin]at hy;obtain⟨hle,r⟩:=UQ hy he;have hxl:=bj J;have hlen2:((xs.drop (i*τ.size)).take τ.size).length≤τ.size:=by simp;omega
 have R:∀j u,((((xs.drop (i*τ.size)).take τ.size).drop off).take f.size)[j]? = some u→c.w.cell? ((⟨g,i*τ.size+off,none⟩:Addr).add j)=some u:=by
  intro j u p;rw[S']at p;split at p
  next hj=>
   rw[p_,S']at p;split at p
   ·rw[p_,←htk,S']at p;split at p
    ·rw[dl];simp[World.cell?,hg];simpa[F_]using p
    ·cases p
   ·cases p
  ·cases p
 obtain⟨v',hrun,T⟩:=cA tk ht c.w ⟨g,i*τ.size+off,none⟩ _ r.size R;refine aq hi (v:=v') ?_ ⟨v',rfl,fK r T⟩;unfold execOp;simp[ho,hp,Instr.loadAt,Instr.sureAddr,hrun]
def JJ (w:World)(g:Nat)(j:Array Value):w.grownBy (w.setRow g j) (some g) :=
 ⟨rfl,rfl,rfl,by simp[World.setRow],λb _ f=>ajh _ _ _ _ (λe=>f (by rw[e]))⟩
def Mg (hi:Inv B U C c){l l2:List τ.den}(hk:c.heap[k]? = some (.mrow τ e v l)){g:Nat}(J:c.rv k = .slice (some ⟨g,0,none⟩) n cap){cur:Array Value}
  (hg:c.w.heap[g]? = some (.cells cur e (0,0))) (hl:l2.length=l.length) {f:Array Value} (ha:f.size=cur.size) (r:Rep c.w c.St (chain (toD τ) l2) (f.toList.take (n*τ.size))) :
  let c':Gh:={ c with heap:=c.heap.set k (.mrow τ e v l2),w:=c.w.setRow g f,St:=c.St,rv:=λi=>if i=k then c.rv k else c.rv i }
  Inv B U C c'∧Ev c c':=by
 obtain⟨hn,cur',xs,T,hnc,hcm,hcs,htk,hrp,R,hB⟩:=dR hi hk J;rw[hg]at T;cases T;have P:obk c k=some g:=by unfold obk;rw[hk,J];rfl
 have j:∀(p:Addr) u,c.St p.block p.off→p.spot=none→c.w.cell? p=some u→(c.w.setRow g f).cell? p=some u:=λp u hst _ hc=>by have:p.block≠g:=λe=>R p.off (e ▸ hst);exact(aiI (ajh _ _ _ _ this)).trans hc
 refine hi.obj (ao hk) (by rw[P];exact JJ _ _ _) (ζ _) (Sb.le.refl _) (λ_ _ _ _ x=>x) (λ_ _ x=>.inl x) j (.inr ⟨τ,e,v,l,hk,.inl ⟨v,l2,rfl,ζ _,λ_=>rfl⟩⟩)
  (.inr ⟨τ,e,v,l2,rfl,.inr (.inl (by rw[P,J];rfl)),f.toList.take (n*τ.size),⟨?_,.inr ⟨g,cap,f, ?_,hB,ajE _ _ _ _ _ _ hg,Ω,hcm,by rw[ha,hcs],by rw[hl,←hn]⟩⟩,r.mono (Sb.le.refl _) j,λb hb o=>?_⟩)
 ·have h1:n*τ.size≤f.toList.length:=by rw[Δ,ha,hcs];exact l_ _ hnc
  rw[o_,V? h1,hl,←hn]
 ·rw[J,hl,←hn]
 ·rw[J]at hb;simp only[Value.ownBlock,θ]at hb;rw[←hb];exact R o
def QK (hi:Inv B U C c)(tk:TabOk P tab)(ho:o.op = .store t x y){r :Ty}{l:List τ.den}{d:r.den}{z:τ.den}(hx:RA c (.mpt k v i off) [a.eval x])(hy:RA c u [a.eval y])
  (hk:c.heap[k]? = some (.mrow τ e v l)) (ht:tab.ty t=some r) (hd:dat? r u=some d) (hz:v8 r d τ (l.getD i (zero τ)) off=some z):Ok P B U C o a c (c.heap.set k (.mrow τ e v (l.set i z))) .unk:=by
 obtain⟨g,n,cap,hr,J,hp⟩:=E1 hx hk;obtain⟨hn,f,xs,hg,hnc,hcm,hcs,htk,p,hns,hB⟩:=dR hi hk hr;subst hn;have he:=tU p i J;rw[On J]at hz;have T:=(dat?_sound hd hy).cells;have hds:=T.size;obtain⟨hle,hset⟩:=U5 T hz he;have hch:=I0 p J hset;have hxl:=bj p;obtain⟨ii,zz,R,hsz,_⟩:=tk.ty t _ ht;have hcl:f.toList.length=cap*τ.size:=by rw[Δ,hcs]
 have hni:i*τ.size+τ.size≤l.length*τ.size:=by rw[←Nat.succ_mul];exact l_ _ J
 have hnc':l.length*τ.size≤cap*τ.size:=l_ _ hnc;have hseg:((xs.drop (i*τ.size)).take τ.size).length=τ.size:=by simp;omega
 rw[hseg]at hle;generalize hcy:(a.eval y).cells.toList=cy at *;have hfit:i*τ.size+off+0+cy.length≤f.size:=by rw[hcs];omega
 have hst:=G? (P:=P) g (i*τ.size+off) e cy 0 f c.w hg hfit T.one;simp at hst;have hA:(f.toList.take (i*τ.size+off)++cy++f.toList.drop (i*τ.size+off+cy.length)).toArray.size=f.size:=by simp;omega
 have hT:((f.toList.take (i*τ.size+off)++cy++f.toList.drop (i*τ.size+off+cy.length)).toArray.toList.take (l.length*τ.size)) =
   xs.take (i*τ.size)++(((xs.drop (i*τ.size)).take τ.size).take off++cy++((xs.drop (i*τ.size)).take τ.size).drop (off+cy.length))++xs.drop (i*τ.size+τ.size):=by
  rw[←htk];apply X_;intro j;simp only[S',List.getElem?_append,p_,o_,Q',aj2,hcl];by_cases h1:j<i*τ.size
  ·have e1:j<l.length*τ.size:=Ω
   have e2:j<min (i*τ.size+off) (cap*τ.size):=Ω
   simp only[e1,j?];repeat (first|rw[E' Ω]|rw[Θ Ω])
  ·by_cases h2:j<i*τ.size+off
   ·repeat (first|rw[E' Ω]|rw[Θ Ω])
    congr 1;omega
   ·by_cases h3:j<i*τ.size+off+cy.length
    ·repeat (first|rw[E' Ω]|rw[Θ Ω])
     congr 1;omega
    ·by_cases h4:j<i*τ.size+τ.size
     ·repeat (first|rw[E' Ω]|rw[Θ Ω])
      congr 1;omega
     ·by_cases h5:j<l.length*τ.size
      ·repeat (first|rw[E' Ω]|rw[Θ Ω])
       congr 1;omega
      ·repeat (first|rw[E' Ω]|rw[Θ Ω])
 obtain⟨hI,hE⟩:=Mg hi hk hr hg (l2:=l.set i z) Ψ hA (by rw[hT];exact hch);intro K Q h;have hrun:(execOp a.eval o).run P c.w = .ok .skip (c.w.setRow g (f.toList.take (i*τ.size+off)++cy++f.toList.drop (i*τ.size+off+cy.length)).toArray):=by
  unfold execOp;have hcs':(a.eval y).cells.size=ii.size:=by rw[hsz,←Array.length_toList,hcy,hds]
  simp[ho,hp,Instr.storeAt,Instr.sureAddr,storeVar,sizeOf,typeInfo,R,hcs',hcy,hst]
 unfold Oper.wp;rw[hrun];exact h undef _ rfl hI hE ⟨_,rfl⟩
def XV {r:Value}{j:Nat}(h:rW r size lo hi s)(C:s = .slice A n cap)(J:n≤cap)(P:i≤j)(U:j≤hi-lo) :
  rW r size (lo+i) (lo+j) (.slice (if cap=i then A else A.map (·.add (i*size))) (j-i) (cap-i)):=by
 rcases h with⟨p,rfl,rfl,l⟩|⟨g,m,T,A',p,h2,h3,l,f⟩
 ·rw[C]at l;injection l with q1 q2 q3;subst q1;subst q2;subst q3;have:i=0:=Ω
  have:j=0:=Ω
  subst i;subst j;exact .inl ⟨p,rfl,rfl,rfl⟩
 ·rw[C]at l;injection l with q1 q2 q3;subst q1;subst q2;subst q3;refine .inr ⟨g,m,T,_,p,Ω,Ω,by rw[show lo+j-(lo+i)=j-i by omega,Nat.sub_sub], ?_⟩;split
  next hc=>
   by_cases R:i=0
   ·subst R;obtain f|f:=f
    ·exact .inl (by rw[f,aiQ])
    ·exact .inr ⟨Ω,Ω⟩
   ·refine .inr ⟨?_,Ω⟩;omega
  next hc=>
   obtain f|f:=f
   ·left;rw[f];simp[aje,dl,T_]
   ·omega
def DH {r:Value}(h:rW r size lo hi s):∃A cap,s = .slice A (hi-lo) cap:=by
 rcases h with⟨_,rfl,rfl,rfl⟩|⟨g,m,f,j,_,_,_,rfl,_⟩
 ·exact⟨_,_,rfl⟩
 ·exact⟨_,_,rfl⟩
def XX {l:List τ.den}(P:Inv B U C c)(J:c.heap[k]? = some (.mrow τ e v l))(h:rW (c.rv k) τ.size lo hi s)(j:s = .slice A n cap):n≤cap∧n=hi-lo:=by
 rcases h with⟨p,rfl,rfl,f⟩|⟨g,m,cp,A',p,h2,T,f,R⟩
 ·rw[j]at f;injection f with _ f R;omega
 ·rw[j]at f;injection f with _ f h6;obtain⟨_,_,_,_,r,_⟩:=dR P J p;omega
def QL (hi:Inv B U C c)(tk:TabOk P tab){r j:Option Operand}(ho:o.op = .slice t x r j none){g :Nat}{l:List τ.den}(hx:RA c (.msl k v lo g) [a.eval x])
  (hk:c.heap[k]? = some (.mrow τ e v l)) (ht:tab.ty t=some (.slice τ)) {J b1:Option Int} (hlo:Hf (r.map a.eval) J) (hhi:Hf (j.map a.eval) b1) (hc:(aL J b1 (g-lo)).1=true) :
  Ok P B U C o a c c.heap (.msl k v (lo+(aL J b1 (g-lo)).2.1) (lo+(aL J b1 (g-lo)).2.2)):=by
 obtain⟨i,z,_,_,_,_,_,_,hu⟩:=tk.ty t _ ht;obtain⟨e',he,R,_⟩:=hu;have f:=dL hx hk;obtain⟨A,cap,T⟩:=DH f;obtain⟨p,_⟩:=XX hi hk f T;obtain⟨h1,h2,h3⟩:=jP (P:=P) c.w true (g-lo) cap hlo hhi hc p;refine aq hi ?_ (sQ hk (XV f T p h2 h3));unfold execOp;simp[ho,T,Instr.sliceAt,ξ,η he,Instr.slice,h1,aA tk R,g_]
def YS (hi:Inv B U C c)(r:TabOk P tab)(ho:o.op = .call cl)(p:cl.callee = .builtin .len)(f:cl.args = #[x])(j:cl.argTypes[0]? = some t){g :Nat}{l:List τ.den}(J:RA c (.msl k v lo g) [a.eval x])
  (hk:c.heap[k]? = some (.mrow τ e v l)) (T:tab.ty t=some (.slice τ)):Ok P B U C o a c c.heap (.val (.int .i64) ((g-lo:Nat):Int)):=by
 obtain⟨i,z,_,_,_,_,_,_,R⟩:=r.ty t _ T;obtain⟨e',he,_⟩:=R;obtain⟨A,cap,hs⟩:=DH (dL J hk);refine aq hi ?_ (cQ _ _);unfold execOp;simp[ho,resolve,p,f,invoke,builtin,Builtin.len_,j,hs,η he,goInt]
def acx (hi:Inv B U C c){m:Nat}{l:List τ.den}(R:c.heap[k]? = some (.mrow τ e v l))(h:rW (c.rv k) τ.size 0 m s) :
  m≤l.length∧s.ownBlock=obk c k∧∃r,c.w.ownsRow B e τ.size s m r∧Rep c.w c.St (chain (toD τ) (l.take m)) r:=by
 obtain⟨r,hown,hrep,_⟩:=hi.mrow k τ e v l R;have f:obk c k=(c.rv k).ownBlock:=by unfold obk;rw[R]
 rcases h with⟨p,_,rfl,rfl⟩|⟨g,n,cap,A,p,_,h3,rfl,h5⟩
 ·exact⟨k_ _,by rw[f,p],[],R_ _ _ _ _,rfl⟩
 ·obtain⟨rfl,j,xs',hg,hnc,hcm,T,J,P,_,hB⟩:=dR hi R p;obtain rfl|⟨_,h5⟩:=h5
  ·refine⟨h3,by rw[f,p];rfl,j.toList.take (m*τ.size),⟨?_,.inr ⟨g,cap,j, ?_,hB,hg,Ω,hcm,T,rfl⟩⟩, ?_⟩
   ·have:m*τ.size≤cap*τ.size:=l_ _ Ω;simp;omega
   ·rw[aiO,aji,aji]
   ·have:=iS m h3 P;rw[←J,ajl]at this;rw[V? (l_ _ h3)]at this;exact this
  ·omega
def DG {v:Value}{f:List Value}(h:w.ownsRow B e size v n f):rW v size 0 n v:=by
 rcases h.2 with⟨rfl,rfl⟩|⟨g,cap,j,rfl,_⟩
 ·exact .inl ⟨rfl,rfl,rfl,rfl⟩
 ·exact .inr ⟨g,n,cap,some ⟨g,0,none⟩,rfl,k_ _,ζ _,Ψ,.inl Ψ⟩
def NA (hi:Inv B U C c)(tk:TabOk P tab){s:Operand}(ho:o.op = .call cl)(hcl:cl.callee = .builtin .append)(hargs:cl.args = #[s,x])(hty:cl.argTypes = #[t,t]){m:Nat}{l f:List τ.den}
  (hs:RA c (.msl k v 0 m) [a.eval s]) (ht:tab.ty t=some (.slice τ)) (hx:∃A cp ds,a.eval x = .slice A f.length cp∧Rep c.w c.St (chain (toD τ) f) ds∧ds.length=f.length*τ.size∧(f.length=0∨∃p,A=some p∧∀j u,ds[j]? = some u→c.w.cell? (p.add j)=some u))
  (he:tab.elem t=some e) (hk:c.heap[k]? = some (.mrow τ e v l)) (hlim:m+f.length≤LIM) :
  Ok P B U C o a c (c.heap.set k (.mrow τ e (v+1) (l.take m++f))) (.msl k (v+1) 0 (m+f.length)):=by
 obtain⟨i,z,_,_,_,_,_,_,hu⟩:=tk.ty t _ ht;obtain⟨R,u1,u2,u3,hpos⟩:=hu;have:R=e:=by rw[he]at u3;exact(υ u3).symm
 subst this;obtain⟨ie,ze,t1,t2,t3,t4,t5,_⟩:=tk.ty R τ u2;have T:=dL hs hk;obtain⟨hml,r,xs,hown,hrep⟩:=acx hi hk T;obtain⟨A,cp,ds,ex,hrx,hdl,hsrc⟩:=hx;obtain⟨r63,rby⟩:=nY hlim t5;obtain⟨v',w',hrun,h2,h3,h4,h5,hd⟩:=dK (P:=P) (B:=B) c.w t o.type R ie ze τ.size ie.bytes u1 t1 t3 t2 rfl (by rw[←Array.length_toList,t4,←(dc (w:=c.w) (St:=c.St) τ).size]) hpos (a.eval s) m xs hown A f.length cp ds hdl hsrc hrx.one r63 rby hi.size;obtain⟨_,_,_,hns⟩:=hi.mrow k τ R v l hk;have J:obk c k=(c.rv k).ownBlock:=by unfold obk;rw[hk]
 have g:∀(p:Addr) u,c.St p.block p.off→p.spot=none→c.w.cell? p=some u→w'.cell? p=some u:=λp u hst _ hc=>by refine h3.cell hc (λe=>?_);rw[r,J]at e;exact hns p.block e.symm p.off hst
 have hlen:(l.take m++f).length=m+f.length:=by simp;omega
 have hnst:∀b,v'.ownBlock=some b→∀o,¬c.St b o:=λb hb o x=>by
  obtain h4|h4:=h4
  ·rw[h4,r,J]at hb;exact hns b hb o x
  ·rw[h4]at hb;injection hb with hb;have:=hi.bnd _ _ x;omega
 obtain⟨hI,hE⟩:=hi.obj (k:=k) (ho' :=.mrow τ R (v+1) (l.take m++f)) (w':=w') (St':=c.St) (r':=v') (ao hk) (by rw[←r];exact h3) hd (Sb.le.refl _) (λ_ _ _ _ x=>x) (λ_ _ x=>.inl x) g
  (.inr ⟨τ,R,v,l,hk,.inl ⟨v+1,_,rfl,Ω,λh=>Ω⟩⟩)
  (.inr ⟨τ,R,v+1,_,rfl,.inr (by rw[←r];exact h4),xs++ds,by rw[hlen];exact h2,(fy hrep hrx).mono (Sb.le.refl _) g,hnst⟩)
 refine cV (v:=v') (fV ho hcl hargs hty (by rw[ex];exact hrun)) rfl hI hE (sQ (l:=l.take m++f) (e:=R) (τ:=τ) ?_ ?_)
 ·show(c.heap.set k _)[k]? = _;rw[get_set,E' rfl,E' (ao hk)]
 ·show rW (if k=k then v' else c.rv k) τ.size 0 (m+f.length) v';rw[E' rfl];exact DG h2
def EH (hi:Inv B U C c)(tk:TabOk P tab){s:Operand}(ho:o.op = .call cl)(hcl:cl.callee = .builtin .append)(p:cl.args = #[s,x])(hty:cl.argTypes = #[t,t]){j:List τ.den}
  (hs:RA c .nil [a.eval s]) (hx:RA c u [a.eval x]) (hl:wT (tab.ty t) u=some ⟨τ,j⟩) (he:tab.elem t=some e) (hf:c.heap[fresh]? = some .none) (hlim:j.length≤LIM) :
  Ok P B U C o a c (c.heap.set fresh (.mrow τ e 1 j)) (.msl fresh 1 0 j.length):=by
 obtain⟨ht,hxv⟩:=eP hl hx;obtain⟨i,z,_,_,_,_,_,_,hu⟩:=tk.ty t _ ht;obtain⟨r,u1,u2,u3,hpos⟩:=hu;have:r=e:=by rw[he]at u3;exact(υ u3).symm
 subst this;obtain⟨ie,ze,t1,t2,t3,t4,t5,_⟩:=tk.ty r τ u2;obtain⟨A,cp,ds,ex,hrx,hdl,hsrc⟩:=x8 hxv;obtain⟨r63,rby⟩:=nY hlim t5;have hs:[a.eval s]=[.slice none 0 0]:=hs;simp at hs;obtain⟨J,w',hrun,h2,h3,R,h5,hd⟩:=dK (P:=P) (B:=B) c.w t o.type r ie ze τ.size ie.bytes u1 t1 t3 t2 rfl (by rw[←Array.length_toList,t4,←(dc (w:=c.w) (St:=c.St) τ).size]) hpos (.slice none 0 0) 0 [] (R_ _ _ _ _) A j.length cp ds hdl hsrc hrx.one (by simpa using r63) (by simpa using rby) hi.size;have f:obk c fresh=none:=by unfold obk;rw[hf]
 have g:∀(T:Addr) u,c.St T.block T.off→T.spot=none→c.w.cell? T=some u→w'.cell? T=some u:=λT u hst _ hc=>by refine h3.cell hc (λe=>?_);cases e
 have hnst:∀b,J.ownBlock=some b→∀o,¬c.St b o:=λb hb o x=>by
  obtain R|R:=R
  ·rw[R]at hb;cases hb
  ·rw[R]at hb;injection hb with hb;have:=hi.bnd _ _ x;omega
 have h2':w'.ownsRow B r τ.size J j.length ds:=by simpa using h2
 obtain⟨hI,hE⟩:=hi.obj (k:=fresh) (ho' :=.mrow τ r 1 j) (w':=w') (St':=c.St) (r':=J) (ao hf) (by rw[f];exact h3) hd (Sb.le.refl _) (λ_ _ _ _ x=>x) (λ_ _ x=>.inl x) g (.inl hf)
  (.inr ⟨τ,r,1,_,rfl,.inr (by rw[f];exact R),ds,h2',hrx.mono (Sb.le.refl _) g,hnst⟩)
 refine cV (v:=J) (fV ho hcl p hty (by rw[hs,ex];exact hrun)) rfl hI hE (sQ (l:=j) (e:=r) (τ:=τ) ?_ ?_)
 ·show(c.heap.set fresh _)[fresh]? = _;rw[get_set,E' rfl,E' (ao hf)]
 ·show rW (if fresh=fresh then J else c.rv fresh) τ.size 0 j.length J;rw[E' rfl];exact DG h2'
def HU {z:Array Value}(p:z.toList=zl τ)(g:0<τ.size):∀n,Rep w St (chain (toD τ) (List.replicate n (zero τ))) (Builtin.zeroCells z n).toList:=by
 have f:z.size=τ.size:=by rw[←Array.length_toList,p];exact(dc (w:=w) (St:=St) τ).size
 have r:∀n,(Builtin.zeroCells z n).toList=(List.replicate n (zl τ)).flatten:=by
  intro n;apply X_;intro j;have U:(Builtin.zeroCells z n).toList.length=n*τ.size:=by rw[Δ,size_zeroCells,f]
  have T:((List.replicate n (zl τ)).flatten).length=n*τ.size:=by simp[List.length_flatten,←p,f]
  by_cases l:j<n*τ.size
  ·have R:j%τ.size<τ.size:=Nat.mod_lt _ g;have e1:(Builtin.zeroCells z n).toList[j]? = some z[j%τ.size]!:=by
    simp[Builtin.zeroCells,f];simp[l]
   have:∀n j,j<n*τ.size→((List.replicate n (zl τ)).flatten)[j]? = some z[j%τ.size]!:=by
    intro n;induction n with
    |zero=>intro j l;omega
    |succ n C=>
     intro j l;rw[aiT,C_];have J:(zl τ).length=τ.size:=by rw[←p,Δ,f]
     by_cases P:j<τ.size
     ·rw[G' Ω,ai8 P,←p];have:j<z.size:=Ω
      simp[this,ai3]
     ·rw[a_ Ω,J,C (j-τ.size) (by rw[Z_]at l;omega),←Nat.mod_eq_sub_mod Ω]
   rw[e1,this n j l]
  ·rw[t_ Ω,t_ Ω]
 intro n;rw[r n];induction n with
 |zero=>rfl
 |succ n C=>exact⟨zl τ,_,by rw[aiT,C_],dc τ,C⟩
def acP (hi:Inv B U C c)(tk:TabOk P tab)(ho:o.op = .makeSlice t x y)(hf:c.heap[fresh]? = some .none){q q':IntKind}{n m:Int}(hx:RA c (.val (.int q) n) [a.eval x])(hy:RA c (.val (.int q') m) [a.eval y])
  (ht:tab.ty t=some (.slice τ)) (he:tab.elem t=some e) (h0:0≤n) (h1:n≤m) (h2:m≤(LIM:Int)) :
  Ok P B U C o a c (c.heap.set fresh (.mrow τ e 0 (List.replicate n.toNat (zero τ)))) (.msl fresh 0 0 n.toNat):=by
 obtain⟨i,z,_,_,_,_,_,_,hu⟩:=tk.ty t _ ht;obtain⟨J,u1,u2,u3,hpos⟩:=hu;have:J=e:=by rw[he]at u3;exact(υ u3).symm
 subst this;obtain⟨ie,p,t1,t2,t3,t4,t5,_⟩:=tk.ty J τ u2;have hxv:=cU hx.val_inv;have hyv:=cU hy.val_inv;unfold LIM at h2;have hm0:(m.toNat:Int)=m:=Int.toNat_of_nonneg Ω;have r:(ie.bytes:Int)*m≤281474976710656:=by
  have h3:ie.bytes*m.toNat≤16384*4294967296:=Nat.mul_le_mul t5 Ω;have h4:((ie.bytes*m.toNat:Nat):Int)≤281474976710656:=Ω
  rw[Int.natCast_mul,hm0]at h4;exact h4
 have R:=run_make (P:=P) c.w t J ie p u1 t1 t3 q q' n m h0 h1 r Ω;have hzs:p.cells.size=τ.size:=by rw[←Array.length_toList,t4];exact(dc (w:=c.w) (St:=c.St) τ).size
 have hmade:madeCells p.cells (m.toNat*ie.size)=Builtin.zeroCells p.cells m.toNat:=by unfold madeCells Builtin.zeroCells;rw[t2,←hzs]
 rw[hmade]at R;have htake:(Builtin.zeroCells p.cells m.toNat).toList.take (n.toNat*τ.size)=(Builtin.zeroCells p.cells n.toNat).toList:=by
  have hle:n.toNat*τ.size≤m.toNat*τ.size:=l_ _ Ω;apply X_;intro j;simp[Builtin.zeroCells,hzs];rw[S'];by_cases hj:j<n.toNat*τ.size
  ·have:j<m.toNat*τ.size:=Ω
   simp[hj,this]
  ·simp[hj]
 have hb:Below c.w.heap.size c.w (c.w.alloc (.cells (Builtin.zeroCells p.cells m.toNat) J)):=(Below.refl _ _).alloc (ζ _) _;have hnone:obk c fresh=none:=by unfold obk;rw[hf]
 have T:=HU (w:=c.w) (St:=c.St) t4 hpos n.toNat;have g:∀(ad:Addr) u,c.St ad.block ad.off→ad.spot=none→c.w.cell? ad=some u→(c.w.alloc (.cells (Builtin.zeroCells p.cells m.toNat) J)).cell? ad=some u:=λad u hst _ hc=>(hb.cell (hi.bnd _ _ hst)).trans hc;have f:(List.replicate n.toNat (zero τ)).length=n.toNat:=by simp
 obtain⟨hI,hE⟩:=hi.obj (k:=fresh) (ho' :=.mrow τ J 0 (List.replicate n.toNat (zero τ))) (w':=c.w.alloc (.cells (Builtin.zeroCells p.cells m.toNat) J)) (St':=c.St) (r' :=.slice (some ⟨c.w.heap.size,0,none⟩) n.toNat m.toNat) (ao hf)
  (by rw[hnone];exact⟨rfl,rfl,rfl,hb.size,λb hb' _=>hb.block b hb'⟩) (ζ _) (Sb.le.refl _) (λ_ _ _ _ x=>x) (λ_ _ x=>.inl x) g (.inl hf)
  (.inr ⟨τ,J,0,_,rfl,.inr (.inr rfl),_,⟨by rw[bj T],.inr ⟨c.w.heap.size,m.toNat,Builtin.zeroCells p.cells m.toNat,by rw[f],hi.size,d? c.w _,by rw[f];omega,by simp[maxLen];omega,by rw[size_zeroCells,hzs],by rw[f];exact htake⟩⟩,T.mono (Sb.le.refl _) g,λb hb' o x=>by
   simp only[Value.ownBlock,θ]at hb';have:=hi.bnd _ _ x;omega⟩)
 refine cV (v :=.slice (some ⟨c.w.heap.size,0,none⟩) n.toNat m.toNat) ?_ rfl hI hE (sQ (τ:=τ) (e:=J) (l:=List.replicate n.toNat (zero τ)) ?_ ?_)
 ·unfold execOp;simp[ho,hxv,hyv,R]
 ·show(c.heap.set fresh _)[fresh]? = _;rw[get_set,E' rfl,E' (ao hf)]
 ·show rW (if fresh=fresh then _ else c.rv fresh) τ.size 0 n.toNat _;rw[E' rfl];exact .inr ⟨c.w.heap.size,n.toNat,m.toNat,some ⟨c.w.heap.size,0,none⟩,rfl,k_ _,ζ _,Ψ,.inl Ψ⟩
def Co (hi:Inv B U C c)(tk:TabOk P tab){parts:Array (Nat×Operand)}(ho:o.op = .buildSlice t 0 parts)(hp:parts.size=0)
  (ht:tab.ty t=some (.slice τ)) (he:tab.elem t=some e) (R:c.heap[fresh]? = some .none):Ok P B U C o a c (c.heap.set fresh (.mrow τ e 0 [])) (.msl fresh 0 0 0):=by
 obtain⟨i,z,_,_,_,_,_,_,hu⟩:=tk.ty t _ ht;obtain⟨p,u1,u2,u3,hpos⟩:=hu;have:p=e:=by rw[he]at u3;exact(υ u3).symm
 subst this;have hpe:parts = #[]:=o? hp;subst hpe;have g:obk c fresh=none:=by unfold obk;rw[R]
 have hb:Below c.w.heap.size c.w (c.w.alloc (.cells #[] p)):=(Below.refl _ _).alloc (ζ _) _;have f:∀(r:Addr) u,c.St r.block r.off→r.spot=none→c.w.cell? r=some u→(c.w.alloc (.cells #[] p)).cell? r=some u:=λr u T _ hc=>(hb.cell (hi.bnd _ _ T)).trans hc;have J:Rep c.w c.St (chain (toD τ) []) []:=rfl;obtain⟨hI,hE⟩:=hi.obj (k:=fresh) (ho' :=.mrow τ p 0 []) (w':=c.w.alloc (.cells #[] p)) (St':=c.St) (r' :=.slice (some ⟨c.w.heap.size,0,none⟩) 0 0) (ao R)
  (by rw[g];exact⟨rfl,rfl,rfl,hb.size,λb j _=>hb.block b j⟩) (ζ _) (Sb.le.refl _) (λ_ _ _ _ x=>x) (λ_ _ x=>.inl x) f (.inl R)
  (.inr ⟨τ,p,0,_,rfl,.inr (.inr rfl),[],⟨Ψ,.inr ⟨c.w.heap.size,0, #[],rfl,hi.size,d? c.w _,ζ _,by simp[maxLen],Ψ,Ψ⟩⟩,J.mono (Sb.le.refl _) f,λb j o x=>by
   simp only[Value.ownBlock,θ]at j;have:=hi.bnd _ _ x;omega⟩)
 refine cV (v :=.slice (some ⟨c.w.heap.size,0,none⟩) 0 0) ?_ rfl hI hE (sQ (τ:=τ) (e:=p) (l:=[]) ?_ ?_)
 ·unfold execOp;have hno:¬(0*τ.size>2^24):=Ω
  have h0:0*τ.size=0:=aiO _;simp only[ho,Instr.buildSlice,ξ,η u1,C',aA tk u2,Θ hno];rw[E' h0,ξ,g_,C'];simp[newRow,Instr.fill,show Array.range 0 = #[] from rfl]
 ·show(c.heap.set fresh _)[fresh]? = _;rw[get_set,E' rfl,E' (ao R)]
 ·show rW (if fresh=fresh then _ else c.rv fresh) τ.size 0 0 _;rw[E' rfl];exact .inr ⟨c.w.heap.size,0,0,some ⟨c.w.heap.size,0,none⟩,rfl,k_ _,ζ _,Ψ,.inl Ψ⟩
def HV {w:World}{St:Sb}:∀{l:List Int} {f:List Value},Rep w St (chain (toD (.int .u8)) l) f→f=l.map (λn=>.int .u8 n)
 |[],f,h=>h
 |n::l,f,h=>by obtain⟨c1,c2,rfl,⟨rfl,_⟩,h2⟩:=h;rw[HV h2];rfl
def GS (hi:Inv B U C c)(tk:TabOk P tab){s:TypeId}(ho:o.op = .convert s t x){l:List Int}(hx:RA c u [a.eval x])(hl:one? (.slice (.int .u8)) u=some l)(ht:tab.ty t=some .str)(hs:tab.ty s=some (.slice (.int .u8))) :
  Ok P B U C o a c c.heap (.val .str (l.map λn:Int=>UInt8.ofNat n.toNat)):=by
 obtain⟨i,z,_,_,_,_,_,_,hu⟩:=tk.ty t _ ht;have hu:P.underlying t=some .string:=hu;obtain⟨i',z',_,_,_,_,_,_,hus⟩:=tk.ty s _ hs;obtain⟨e,u1,u2,u3,hpos⟩:=hus;obtain⟨_,_,_,_,_,_,_,_,p⟩:=tk.ty e _ u2;have p:P.underlying e=some (.int .u8):=p;obtain⟨A,cp,ev,hcap,hds⟩:=dU ((repv_cell (t :=.slice (.int .u8)) rfl).1 (one?_sound hl hx));simp at ev;refine aq hi (v :=.string ⟨(l.map λn:Int=>UInt8.ofNat n.toNat).toArray⟩) ?_ (At _);have f:(Conv.bytesToString (a.eval x)).run P c.w = .ok (.string ⟨(l.map λn:Int=>UInt8.ofNat n.toNat).toArray⟩) c.w:=by
  rw[ev];cases A with
  |none=>
   have hl0:l=[]:=by
    obtain h0|⟨ad,ds,h0,_⟩:=hds
    ·exact P' h0
    ·cases h0
   subst hl0;simp[Conv.bytesToString];rfl
  |some ad=>
   have J:(loadCells ad l.length).run P c.w = .ok (l.map (Value.int .u8)).toArray c.w:=by
    obtain h0|⟨ad',ds,h0,_,hrep,T⟩:=hds
    ·have:l=[]:=P' h0;subst this;simp[loadCells,loadCellsFrom]
    ·cases h0;have hb:=HV hrep;have:=R? (P:=P) c.w ad ds (λj u hu=>(T j u hu).1);rw[hb]at this;simpa using this
   rw[run_bytesToString (P:=P) c.w ad l.length cp l J];have R:∀(ns:List Int) (g:ByteArray),ns.foldl (λr n=>r.push (UInt8.ofNat n.toNat)) g=⟨g.data++(ns.map λn:Int=>UInt8.ofNat n.toNat).toArray⟩:=by
    intro ns;induction ns with
    |nil=>intro g;simp
    |cons n ns ih=>intro g;simp only[List.foldl_cons,ih,c?];congr 1;simp[ByteArray.push]
   rw[R];congr 3;simp
 unfold execOp;simp[ho,convert,η u1,η hu];rw[ev]at f⊢;simp[η p,f]
end
def oo (g:Bool):AV→Bool×AV
 |.cond c a=>(aN g c,a)
 |a=>(true,a)
def pf (g:Bool):List AV→Bool×List AV
 |[]=>(true,[])
 |a::l=>((oo g a).1&&(pf g l).1,(oo g a).2::(pf g l).2)
def gT (op:Op)(g:Bool)(l:List AV):Bool×List AV :=
 match op,l with
 |.pick _ _ _,a::r=>((oo g a).1,(oo g a).2::r)
 |_,l=>pf g l
def zy (env:List AV)(g:List Oper)(j:Nat)(f:Bool):Option Bool :=
 match (g[j]?).bind (·.dst)with
 |some d=>match env.getD d .unk with
  |.val .bool b=>some (match f with|true=>b|false=>!b)
  |.cond c (.val .bool b)=>some (c&&(match f with|true=>b|false=>!b))
  |_=>none
 |none=>none
structure Dl where
 chk:Bool
 out:AV
 dst:Option Nat
 wr:Option (Nat×HO)
def sR (env:List AV)(f:Option Nat)(a:AV):List AV :=
 match f with
 |some d=>env.set d a
 |none=>env
def DU (f:List HO)(wr:Option (Nat×HO)):List HO :=
 match wr with
 |some (k,ho)=>f.set k ho
 |none=>f
def Dl.app (d:Dl)(σ:Sg):Sg:=⟨sR σ.env d.dst d.out,DU σ.heap d.wr⟩
def Od (f:List HO)(k:Option Nat):HO :=
 match k with
 |some k=>f.getD k .none
 |none=>.none
def SE (f:Tab)(T:Specs)(o:Oper)(fresh:Nat)(g:Option Bool)(J:List AV)(l:HO):Option Dl :=
 match g with
 |none=>match eff f T o true J fresh l with
  |some (c,out,j)=>some ⟨c,out,o.dst,if cP T o.op then none else match br T o.op J fresh with|some k=>some (k,j)|none=>none⟩
  |none=>none
 |some g=>if cP T o.op then match eff f T o g (gT o.op g J).2 fresh l with
   |some (c,out,_)=>some ⟨(gT o.op g J).1&&aN g c,.cond g out,o.dst,none⟩
   |none=>none
  else match agS f o (gT o.op g J).2 with
   |some out=>some ⟨(gT o.op g J).1,.cond g out,o.dst,none⟩
   |none=>none
def gOf (env:List AV)(f:List Oper)(o:Oper):Option (Option Bool) :=
 match o.guard with
 |none=>some none
 |some (j,want)=>match zy env f j want with
  |some g=>some (some g)
  |none=>none
def cF (env:List AV)(o:Oper):List AV:=o.op.operands.toList.map (QH env)
def lz (T:Specs)(o:Oper)(fresh:Nat)(g:Option Bool)(J:List AV):Option Nat :=
 match g with
 |none=>br T o.op J fresh
 |some g=>br T o.op (gT o.op g J).2 fresh
def v7 (j:Tab)(T:Specs)(l:List Oper)(fresh:Nat)(o:Oper)(f:Sg):Option Dl :=
 match gOf f.env l o with
 |some g=>SE j T o fresh g (cF f.env o) (Od f.heap (lz T o fresh g (cF f.env o)))
 |none=>none
def AV.noCond:AV→Bool
 |.fn _ c=>c.noCond
 |.agg p=>p.noCond
 |.tup p=>p.noCond
 |.pcons a b=>a.noCond&&b.noCond
 |.cond _ _=>false
 |_=>true
def clr:AV→AV
 |.cond _ _=>.unk
 |a=>a
inductive Tgt where
 |fn (f:FuncId)|yld (j:Nat)
abbrev Yk:=Nat→List AV→List HO→(AV→List HO→Option AV)→Option AV
abbrev Ck:=Tgt→List AV→List HO→(AV→List HO→Option AV)→Option AV
structure Callk where
 call:Ck
 iter:Yk→Ck
def cI (o:Oper)(env:List AV):Option (Tgt×List AV) :=
 match o.op,o.guard with
 |.call cl,none=>match cl.callee,cF env o with
  |.value _,.fn f caps::args=>if env.all AV.noCond then some (.fn f,args++caps.parts)else none
  |.value _,.yld j::args=>if env.all AV.noCond then some (.yld j,args)else none
  |_,_=>none
 |_,_=>none
def NN (g:Tab)(o:Oper)(j:Sg)(fresh:Nat):Option (Bool×AV×List HO) :=
 match o.op,o.guard with
 |.call cl,none=>match cl.callee with
  |.builtin .append=>match cF j.env o,cl.argTypes.toList with
   |[s,.msl k v lo hi],[t1,p]=>if t1=p then match g.elem t1,g.ty t1,j.heap[k]? with
     |some e,some (.slice f),some (.mrow τ' _ v' l)=>if v'=v then match cast? (.slice τ') (.slice f) l with
       |some l=>match s with
        |.own P J p r=>match j.heap[P]? with
         |some (.row t3 e3 v3)=>if t3=p then if e3=e then if v3=J then match cast? (.slice p) (.slice f) r with
           |some r=>some (decide (r.length+((l.take hi).drop lo).length≤LIM),.own P (J+1) f (r++(l.take hi).drop lo),j.heap.set P (.row f e (J+1)))
           |none=>none
          else none else none else none
         |_=>none
        |.nil=>match j.heap[fresh]? with
         |some .none=>some (decide (((l.take hi).drop lo).length≤LIM),.own fresh 1 f ((l.take hi).drop lo),j.heap.set fresh (.row f e 1))
         |_=>none
        |_=>none
       |none=>none
      else none
     |_,_,_=>none
    else none
   |_,_=>none
  |.builtin .copy=>match cF j.env o,cl.argTypes.toList with
   |[.msl k v lo hi,x],[t1,p]=>if t1=p then match g.elem t1,wT (g.ty t1) x,j.heap[k]? with
     |some e,some ⟨f,C⟩,some (.mrow τ' e' v' l)=>if v'=v then if e'=e then match cast? (.slice τ') (.slice f) l with
       |some l=>some (true,.val (.int .i64) ((Nat.min C.length (hi-lo):Nat):Int),j.heap.set k (.mrow f e v (l.take lo++C.take (Nat.min C.length (hi-lo))++l.drop (lo+Nat.min C.length (hi-lo)))))
       |none=>none
      else none else none
     |_,_,_=>none
    else none
   |_,_=>none
  |.builtin .clear=>match cF j.env o with
   |[.msl k v lo hi]=>match (cl.argTypes[0]?).bind g.elem,(cl.argTypes[0]?).bind g.ty,j.heap[k]? with
    |some e,some (.slice f),some (.mrow τ' e' v' l)=>if v'=v then if e'=e then match cast? (.slice τ') (.slice f) l with
      |some l=>some (true,.tup .pnil,j.heap.set k (.mrow f e v (l.take lo++List.replicate (hi-lo) (zero f)++l.drop hi)))
      |none=>none
     else none else none
    |_,_,_=>none
   |_=>none
  |_=>none
 |_,_=>none
def aQ (l:Tab)(T:Specs)(ck:Callk)(C:List Oper)(g:Nat):Nat→List Oper→Sg→(Sg→Option AV)→Option AV
 |_,[],p,k=>k p
 |i,o::r,p,k=>
  match v7 l T C (g+i) o p with
  |some d=>bif d.chk then aQ l T ck C g (i+1) r (d.app p) k else none
  |none=>match NN l o p (g+i)with
   |some (b,out,j)=>bif b then aQ l T ck C g (i+1) r ⟨sR p.env o.dst out,j⟩ k else none
   |none=>match cI o p.env with
    |some (f,args)=>ck.call f args p.heap (λres j=>aQ l T ck C g (i+1) r ⟨sR p.env o.dst res,j⟩ k)
    |none=>none
def Dt (l:Tab)(T:Specs)(j:List Oper)(f:Nat):Nat→List Oper→Sg→Option (List Dl×List (Option Nat))
 |_,[],_=>some ([],[])
 |i,o::r,σ=>
  match v7 l T j (f+i) o σ with
  |some d=>match Dt l T j f (i+1) r (d.app σ)with
   |some (ds,ts)=>some (d::ds,(match gOf σ.env j o with|some g=>lz T o (f+i) g (cF σ.env o)|none=>none)::ts)
   |none=>none
  |none=>match r with
   |[]=>some ([],[])
   |_=>none
def aM:List Oper→List Nat→List Nat
 |[],acc=>acc
 |o::r,acc=>aM r (acc++[o.after.toList.foldl (λs e=>if Region.binds .any e then s ||| 2^e.on ||| acc.getD e.on 0 else s) 0])
def bW:Nat→List Oper→Bool
 |_,[]=>true
 |i,o::r=>o.after.toList.all (λe=>!Region.binds .any e||decide (e.on<i))&&bW (i+1) r
def eA (f:List Oper)(o:Oper):List Nat :=
 (o.op.operands.toList.filterMap λ|.tmp t=>some t|_=>none)++(match o.guard with|some (j,_)=>((f[j]?).bind (·.dst)).toList|none=>[])
def Ih (x y:Option Nat):Bool :=
 match x,y with
 |some a,some b=>a == b
 |_,_=>false
def Gw (T:Specs)(f:List Oper)(j g:Oper)(p l:Option Nat):Bool :=
 !Ih j.dst g.dst&&(match j.dst with|some d=>!(eA f g).contains d|none=>true)&&(match g.dst with|some d=>!(eA f j).contains d|none=>true) &&
 (!Ih p l||(cP T j.op&&cP T g.op))
def fB (T:Specs)(f:List Oper)(r:List Nat)(g:List (Option Nat))(i j:Nat):Bool :=
 (r.getD j 0).testBit i||(match f[i]?,f[j]? with
  |some p,some l=>Gw T f p l (g.getD i none) (g.getD j none)
  |_,_=>false)
def K9 (T:Specs)(f:List Oper)(g:List (Option Nat))(l:List Nat):Bool :=
 bW 0 f&&(List.range f.length).all (λj=>(List.range j).all λi=>
  if j<g.length then fB T f l g i j else(l.getD j 0).testBit i)
def agt (k:Sg→Option AV):Sg→Option AV:=λf=>k ⟨f.env.map clr,f.heap⟩
def uH (j:Tab)(T:Specs)(ck:Callk)(f:List Oper)(l:Bool)(g:Sg)(k:Sg→Option AV):Option AV :=
 match l with
 |false=>aQ j T ck f g.heap.length 0 f ⟨g.env,g.heap++List.replicate f.length .none⟩ (agt k)
 |true=>match Dt j T f g.heap.length 0 f ⟨g.env,g.heap++List.replicate f.length .none⟩with
  |some (_,ts)=>if K9 T f ts (aM f [])then aQ j T ck f g.heap.length 0 f ⟨g.env,g.heap++List.replicate f.length .none⟩ (agt k)else none
  |none=>none
inductive MK where
 |dat (t:Ty)|own (t:Ty) (e:TypeId)|mut (t:Ty) (e:TypeId)|keep|drop
structure MS where
 h0:Nat
 pre:List (Nat×List MK)
 env:List (Nat×MK)
def AV.under (n:Nat):AV→Bool
 |.box k _=>decide (k<n)
 |.own k _ _ _=>decide (k<n)
 |.msl k _ _ _=>decide (k<n)
 |.mpt k _ _ _=>decide (k<n)
 |.yld k=>decide (k<n)
 |.fn _ c=>c.under n
 |.agg p=>p.under n
 |.tup p=>p.under n
 |.pcons a b=>a.under n&&b.under n
 |.cond _ a=>a.under n
 |_=>true
inductive LE where
 |own (t:Ty) (e:TypeId)
 |mut (t:Ty) (e:TypeId) (ko:Option (Nat×Nat)) (l:List t.den)
 |frz (t:Ty) (e:TypeId) (ko:Option (Nat×Nat)) (l:List t.den)
def LE.ho:LE→HO
 |.own t e=>.row t e 0
 |.mut t e _ l=>.mrow t e 0 l
 |.frz _ _ _ _=>.dead
def adz (k v:Nat):Option (Nat×Nat)→Bool
 |some (k',v')=>Nat.beq k k'&&Nat.beq v v'
 |none=>false
def zC (t:Ty)(k v:Nat):Nat→List LE→Option Nat
 |_,[]=>none
 |i,.mut t' _ ko _::r=>if adz k v ko&&decide (t'=t)then some i else zC t k v (i+1) r
 |i,_::r=>zC t k v (i+1) r
def zD (t:Ty)(k v:Nat):List LE→Option (List t.den)
 |[]=>none
 |.frz t' _ ko l::r=>if adz k v ko then match cast? (.slice t') (.slice t) l with|some l=>some l|none=>none else zD t k v r
 |_::r=>zD t k v r
def conv (f:Nat):MK→AV→List HO→List LE→Option (AV×List HO×List LE)
 |.dat t,.msl k v j p,H,L=>match t with
  |.slice g=>match zD g k v L with
   |some l=>some (.val (.slice g) ((l.take p).drop j),H,L)
   |none=>match H[k]? with
    |some (.mrow τ' e v' l)=>if v'=v then match cast? (.slice τ') (.slice g) l with
      |some l=>some (.val (.slice g) ((l.take p).drop j),H.set k .dead,L++[.frz g e (some (k,v)) l])
      |none=>none
     else none
    |_=>none
  |_=>none
 |.dat t,a,H,L=>match dat? t a with
  |some x=>some (.val t x,H,L)
  |none=>none
 |.own t e,.own k v r l,H,L=>match H[k]? with
  |some (.row t2 e2 v2)=>if t2=r then if e2=e then if v2=v then match cast? (.slice r) (.slice t) l with
    |some l=>some (.own (f+L.length) 0 t l,H.set k (.row t2 e2 (v2+1)),L++[.own t e])
    |none=>none
   else none else none else none
  |_=>none
 |.own t e,.nil,H,L=>some (.own (f+L.length) 0 t [],H,L++[.own t e])
 |.mut t e,.msl k v j p,H,L=>match zC t k v 0 L with
  |some i=>some (.msl (f+i) 0 j p,H,L)
  |none=>match H[k]? with
   |some (.mrow t2 e2 v2 l)=>if e2=e then if v2=v then match cast? (.slice t2) (.slice t) l with
     |some l=>some (.msl (f+L.length) 0 j p,H.set k .dead,L++[.mut t e (some (k,v)) l])
     |none=>none
    else none else none
   |_=>none
 |.mut t e,.nil,H,L=>some (.msl (f+L.length) 0 0 0,H,L++[.mut t e none []])
 |.keep,a,H,L=>if a.under f then some (a,H,L)else none
 |.drop,_,H,L=>some (.unk,H,L)
 |_,_,_,_=>none
def TW (f:Nat):List MK→List AV→List HO→List LE→Option (List AV×List HO×List LE)
 |[],[],H,L=>some ([],H,L)
 |m::ms,a::as,H,L=>match conv f m a H L with
  |some (g,H,L)=>match TW f ms as H L with
   |some (as',H,L)=>some (g::as',H,L)
   |none=>none
  |none=>none
 |_,_,_,_=>none
def CY (f:Nat)(env:List AV):List (Nat×MK)→List AV→List HO→List LE→Option (List AV×List HO×List LE)
 |[],acc,H,L=>some (acc,H,L)
 |(s,m)::r,acc,H,L=>match conv f m (env.getD s .unk) H L with
  |some (a,H,L)=>CY f env r (acc.set s a) H L
  |none=>none
def CX (f:Nat):List (Nat×List MK)→List HO→List LE→Option (List (Nat×List AV)×List HO×List LE)
 |[],H,L=>some ([],H,L)
 |(k,ms)::r,H,L=>match H[k]? with
  |some (.box cells)=>match TW f ms cells H L with
   |some (cells',H,L)=>match CX f r H L with
    |some (b,H,L)=>some ((k,cells')::b,H,L)
    |none=>none
   |none=>none
  |_=>none
def HO.under (n:Nat):HO→Bool
 |.box cells=>cells.all (AV.under n)
 |_=>true
def eS:List (Nat×List AV)→List HO→List HO
 |[],H=>H
 |(k,cells)::r,H=>eS r (H.set k (.box cells))
def yG (g:Nat)(f:List Nat):Nat→List HO→Bool
 |_,[]=>true
 |i,ho::r=>(f.contains i||ho.under g)&&yG g f (i+1) r
def EW:List Nat→Bool
 |[]=>true
 |a::l=>!l.contains a&&EW l
def adi (g:Nat)(m:MS)(f:Sg):Option Sg :=
 if decide (g≤m.h0)&&decide (m.h0≤f.heap.length)&&EW (m.pre.map (·.1))&&m.pre.all (λp=>decide (p.1<m.h0))&&yG m.h0 (m.pre.map (·.1)) 0 (f.heap.take m.h0)then
  match CX m.h0 m.pre f.heap []with
  |some (j,H,L)=>match CY m.h0 f.env m.env (List.replicate f.env.length .unk) H L with
   |some (env,H,L)=>some ⟨env,eS j (H.take m.h0)++L.map LE.ho⟩
   |none=>none
  |none=>none
 else none
inductive Ex where
 |normal|exit (id:Nat)|ret
abbrev KT:=Ex→Sg→Option AV
structure Par where
 tab:Tab
 T:Specs
 joins:Nat→Nat→Option MS
 loops:Nat→Nat→Option MS
def ru:Code→Option Nat
 |.region id _ _=>some id
 |.seq a b=>match ru a with|some i=>some i|none=>ru b
 |.cond _ a b=>match ru a with|some i=>some i|none=>ru b
 |.block _ c=>ru c
 |.loop c=>ru c
 |.scope c=>ru c
 |_=>none
def E7 (j:Nat)(m:Option MS)(g:Sg)(k:Sg→Option AV):Option AV :=
 match m with
 |none=>k g
 |some m=>match adi j m g with
  |some f=>k f
  |none=>none
def be (j:Nat)(m:Option MS)(l:Sg→KT→Option AV)(k:KT):KT:=λe g=>
 match e with
 |.normal=>E7 j m g λf=>l f k
 |e=>k e g
def am (id:Nat)(k:KT):KT:=λe g=>
 match e with
 |.exit f=>match Nat.beq f id with
  |true=>k .normal g
  |false=>k (.exit f) g
 |e=>k e g
def In (j:Nat)(m:MS)(f:Sg→Option AV)(k:KT):KT:=λe g=>
 match e with
 |.normal=>E7 j (some m) g f
 |e=>k e g
def aT (g:Nat)(m:MS)(f:Sg→KT→Option AV)(k:KT):Nat→Sg→Option AV
 |0,_=>none
 |n+1,σ=>f σ (In g m (aT g m f k n) k)
def agu (f:Sg→Option AV)(k:KT):KT:=λe g=>
 match e with
 |.normal=>f g
 |e=>k e g
def pD (f:Sg→KT→Option AV)(k:KT):Nat→Sg→Option AV
 |0,_=>none
 |n+1,σ=>f σ (agu (pD f k n) k)
def cm:Code→Bool
 |.region _ f _=>f.toList.all λo=>match o.op with|.defer _=>false|_=>true
 |.seq a b=>cm a&&cm b
 |.cond _ a b=>cm a&&cm b
 |.block _ a=>cm a
 |.loop a=>cm a
 |.scope a=>cm a
 |.rangeFunc _ _ a b=>cm a&&cm b
 |_=>true
def yd:List Nat→List AV→List AV→Option (List AV)
 |[],[],env=>some env
 |t::ts,a::as,env=>yd ts as (env.set t a)
 |_,_,_=>none
def ags (g:AV→List HO→Option AV):KT:=λe f=>
 match e with
 |.normal=>g (.val .bool true) f.heap
 |_=>none
def JO (j:Nat)(call:Ck)(env:List AV)(ps:List Nat)(l:Nat→Sg→KT→Option AV):Yk:=λr args f p=>
 match Nat.beq r j with
 |true=>match yd ps args env with
  |some g=>l f.length ⟨g,f⟩ (ags p)
  |none=>none
 |false=>call (.yld r) args f p
def exec (ck:Callk)(S:Par):Nat→Nat→Code→Sg→KT→Option AV
 |_,_,.skip,g,k=>k .normal g
 |_,_,.label _,g,k=>k .normal g
 |_,_,.region _ p l,g,k=>uH S.tab S.T ck p.toList l g (k .normal)
 |j,f,.seq a b,g,k=>exec ck S j f a g (be j ((ru b).bind (S.joins j)) (λg k=>exec ck S j f b g k) k)
 |j,f,.cond c a b,g,k=>match QH g.env c with
  |.val .bool x=>bif x then exec ck S j f a g k else exec ck S j f b g k
  |_=>none
 |j,f,.block id c,g,k=>exec ck S j f c g (am id k)
 |j,f,.loop c,g,k=>match (ru c).bind (S.loops j)with
  |some m=>E7 j (some m) g (aT j m (λg k=>exec ck S j f c g k) k f)
  |none=>pD (λg k=>exec ck S j f c g k) k f g
 |_,_,.exit id,g,k=>k (.exit id) g
 |_,_,.ret,g,k=>k .ret g
 |_,_,_,_,_=>none
def yj (j:Tab)(l:Sg):ResultVar→Option AV
 |.tmp t=>match l.env.getD t .unk with
  |.cond _ _=>none
  |a=>some a
 |.cell t p=>match l.env.getD t .unk with
  |.box k f=>match l.heap.getD k .none,j.ty p with
   |.box cells,some g=>match asm g ((cells.drop f).take g.size)with
    |some x=>some (.val g x)
    |none=>if g.isStruct&&acD (j.one p) ((cells.drop f).take g.size)then some (.agg (bh ((cells.drop f).take g.size)))else none
   |_,_=>none
  |_=>none
def eh (f:Tab)(g:Sg):List ResultVar→Option (List AV)
 |[]=>some []
 |r::l=>match yj f g r,eh f g l with
  |some a,some j=>some (a::j)
  |_,_=>none
def nC:List AV→AV
 |[a]=>a
 |l=>.tup (bh l)
def aid (f:Tab)(j:List ResultVar)(k:AV→List HO→Option AV):KT:=λe g=>
 match e with
 |.exit _=>none
 |_=>match eh f g j with
  |some l=>k (nC l) g.heap
  |none=>none
def ED (f:List HO)(t:Ty)(a:AV):Option t.den :=
 match a with
 |.msl k v j p=>match t with
  |.slice g=>match f[k]? with
   |some (.mrow τ' _ v' l)=>if v'=v then match cast? (.slice τ') (.slice g) l with
     |some l=>some ((l.take p).drop j)
     |none=>none
    else none
   |_=>none
  |_=>none
 |a=>one? t a
def Xe (f:List HO):(t:Ty)→List AV→Option t.den
 |.unit,[]=>some ()
 |.cons a b,l=>match Xe f a (l.take a.size),Xe f b (l.drop a.size)with|some x,some y=>some (x,y)|_,_=>none
 |.tree,[a,b,c,d]=>match ED f (.int .i64) a,ED f .str b,ED f (.slice .str) c,ED f (.slice .tree) d with
  |some k,some t,some g,some j=>some (Tree.mk k t g j)
  |_,_,_,_=>none
 |.int k,[a]=>ED f (.int k) a
 |.bool,[a]=>ED f .bool a
 |.str,[a]=>ED f .str a
 |.slice t,[a]=>ED f (.slice t) a
 |_,_=>none
def ad6 (f:List HO)(t:Ty)(a:AV):Option t.den :=
 match a with
 |.agg p=>if t.isStruct then Xe f t p.parts else none
 |a=>ED f t a
def aaB (f:List HO):List Ty→List AV→Option (List AV)
 |[],[]=>some []
 |t::ts,a::l=>match ad6 f t a,aaB f ts l with
  |some x,some r=>some (.val t x::r)
  |_,_=>none
 |_,_=>none
def bB (g:Tab)(p:List ResultVar)(f:List Ty):KT:=λe j=>
 match e with
 |.exit _=>none
 |_=>match eh g j p with
  |some l=>match aaB j.heap f l with
   |some l=>some (nC l)
   |none=>none
  |none=>none
structure Fi where
 S:Par
 ntmps:Nat
 results:List ResultVar
 code:Code
abbrev Hs:=FuncId→List AV→List HO→Option (Bool×AV×List HO)
def hs0:Hs:=λ_ _ _=>none
def Hd (call:Yk→Ck)(f:Yk):Callk:=⟨call f,call⟩
def tf (C:FuncId→Option Fi)(r:Hs)(l:Nat):Nat→Yk→Ck
 |_,p,.yld j,args,g,k=>p j args g k
 |0,_,.fn _,_,_,_=>none
 |d+1,p,.fn f,args,g,k=>match r f args g with
  |some (b,out,heap')=>bif b then k out heap' else none
  |none=>match C f with
   |some x=>exec (Hd (tf C r l d) p) x.S g.length l x.code ⟨args++List.replicate (x.ntmps-args.length) .unk,g⟩ (aid x.S.tab x.results k)
   |none=>none
def noY:Yk:=λ_ _ _ _=>none
abbrev bu (j:FuncId→Option Fi)(g:Hs)(f d:Nat):Callk:=Hd (tf j g f d) noY
def mkE (n:Nat)(l:List (Nat×AV)):List AV:=l.foldl (λe p=>e.set p.1 p.2) (List.replicate n .unk)
def mkH (n:Nat)(l:List (Nat×HO)):List HO:=l.foldl (λe p=>e.set p.1 p.2) (List.replicate n .none)
def sub:Code→List Nat→Code
 |.seq a _,0::r=>sub a r
 |.seq _ b,1::r=>sub b r
 |.cond _ a _,0::r=>sub a r
 |.cond _ _ b,1::r=>sub b r
 |.block _ c,0::r=>sub c r
 |.loop c,0::r=>sub c r
 |.rangeFunc _ _ _ c,0::r=>sub c r
 |.rangeFunc _ _ c _,1::r=>sub c r
 |c,_=>c
abbrev w64 (n:Int):Int:=IntKind.i64.wrap n
abbrev ix (t:Ty)(l:List t.den)(i:Int):t.den:=l.getD i.toNat (zero t)
abbrev ixs (l:Str)(i:Int):Int:=((l.getD i.toNat 0).toNat:Int)
def lH (l:FuncId→Option Fi)(j:Hs)(d:Nat)(x:Fi)(g:List Ty)(f:Nat)(args:List AV):Option AV :=
 match args.all AV.nojk with
 |true=>exec (bu l j f d) x.S 0 f x.code ⟨args++List.replicate (x.ntmps-args.length) .unk,[]⟩ (bB x.S.tab x.results g)
 |false=>none
def RepVs (w:World)(St:Sb):List ((t:Ty)×t.den)→List Value→Prop
 |[],[]=>True
 |d::l,v::vs=>RepV w St d.1 d.2 v∧RepVs w St l vs
 |_,_=>False
def GI:List AV→List ((t:Ty)×t.den)→Prop
 |[],[]=>True
 |a::l,d::r=>dat? d.1 a=some d.2∧GI l r
 |_,_=>False
def bp (P:Program)(f:FuncId):Prop:=∃fn,P.funcs[f]? = some fn∧fn.body.isSome=true∧(fn.name == "runtime.NumGoroutine")=false
def aI (w:World)(St:Sb):Gh:=⟨[],St,λ_=>0,λ_=>undef,w,λ_=>0⟩
def GF (w:World)(St:Sb)(res:AV):Ending→World→Prop:=λe f=>
 ∃v St',e = .returned v∧Below w.heap.size w f∧dz w≤dz f∧St.le St'∧(∀b o,St' b o→St b o∨(w.heap.size≤b∧b<f.heap.size))∧(∀b e cap n,St'.j b e cap n→St.j b e cap n∨NJ w.heap.size f St' b e cap n)∧RA (aI f St') res [v]
def MeetsD (P:Program)(f:FuncId)(j:List ((t:Ty)×t.den))(res:AV):Prop :=
 bp P f∧∀w St,(∀b o,St b o→b<w.heap.size)→∀g,RepVs w St j g→Calls P f g.toArray w (GF w St res)
def GG (P:Program)(f:FuncId)(args:List AV)(res:AV):Prop :=
 ∃R:World→Sb→List Value→Prop,(∀c g,RAs c args g→R c.w c.St g)∧bp P f∧∀w St,(∀b o,St b o→b<w.heap.size)→∀g,R w St g→Calls P f g.toArray w (GF w St res)
def Uj (P:Program)(f:FuncId)(cells aC:List AV)(res:AV):Prop :=
 bp P f∧∀(c:Gh) (g:Nat) (j:Array Value) (t:TypeId) (p:List Value),c.w.heap[g]? = some (.cells j t (0,0))→RAs c cells j.toList→(∀b o,c.St b o→b<c.w.heap.size)→RAs c aC p →
  Calls P f (.pointer (some ⟨g,0,none⟩)::p).toArray c.w λe l=>∃v,e = .returned v∧Below c.w.heap.size c.w l∧dz c.w≤dz l∧∀r,RA r res [v]
def Ui (P:Program)(f:FuncId)(cells aC g:List AV)(res:AV):Prop :=
 bp P f∧∀(B:Bd) (U:World) (C:Sb) (c:Gh),Inv B U C c→∀(k:Nat),c.heap[k]? = some (.box cells)→∀l,RAs c (.box k 0::aC) l →
  Calls P f l.toArray c.w λe p=>∃v j,e = .returned v∧j.heap=c.heap.set k (.box g)∧j.w=p∧Inv B U C j∧Ev c j∧RA j res [v]
def aeP (P:Program)(f:FuncId)(t:Ty)(e:TypeId)(l:List t.den)(aC:List AV)(J:List t.den):Prop :=
 bp P f∧∀(B:Bd) (U:World) (C:Sb) (c:Gh),Inv B U C c→∀(k v:Nat),c.heap[k]? = some (.row t e v)→∀j,RAs c (.own k v t l::aC) j →
  Calls P f j.toArray c.w λR p=>∃r g,R = .returned r∧g.heap=c.heap.set k (.row t e (v+1))∧g.w=p∧Inv B U C g∧Ev c g∧RA g (.own k (v+1) t J) [r]
def ahp (P:Program)(f:FuncId)(t:Ty)(e:TypeId)(args:List AV)(p:List t.den):Prop :=
 bp P f∧∀(B:Bd) (U:World) (C:Sb) (c:Gh),Inv B U C c→∀(k v:Nat),c.heap[k]? = some (.row t e v)→∀j,RAs c args j →
  Calls P f j.toArray c.w λJ l=>∃r g,J = .returned r∧g.heap=c.heap.set k (.row t e (v+1))∧g.w=l∧Inv B U C g∧Ev c g∧RA g (.own k (v+1) t p) [r]
structure SpecsOk (P:Program)(T:Specs):Prop where
 call:∀f args res,T.call f args=some (true,res)→GG P f args res
 rd:∀f cells aC res,T.rd f cells aC=some (true,res)→Uj P f cells aC res
 bx:∀f cells aC cells' res,T.bx f cells aC=some (true,cells',res)→Ui P f cells aC cells' res
 rb:∀f q,T.rb f=some q→∀l aC l',q.F l aC=some (true,l')→aeP P f q.t q.e l aC l'
 nw:∀f q,T.nw f=some q→∀args l',q.F args=some (true,l')→ahp P f q.t q.e args l'
section
variable {P:Program}{tab:Tab}{T:Specs}{B:Bd}{U:World}{C:Sb}{c:Gh}{o:Oper}{a:Act}
def RAs.dat:∀{g:List AV} {f:List Value} {j:List ((t:Ty)×t.den)},GI g j→RAs c g f→RepVs c.w c.St j f
 |[],[],[],_,_=>trivial
 |_::_,_::_,_::_,⟨h,p⟩,⟨r,l⟩=>⟨dat?_sound h r,RAs.dat p l⟩
 |[],[],_::_,h,_=>h.elim
 |_::_,_::_,[],h,_=>h.elim
variable{f:FuncId}{args aC us J:List AV}{res:AV}{cl:Call}{x:Operand}{k fresh:Nat}{t:Ty}{e:TypeId}{v:Value}{g:Bool}
def kN {ds:List ((t:Ty)×t.den)}(l:GI args ds)(g:MeetsD P f ds res):GG P f args res :=
 ⟨λw St j=>RepVs w St ds j,λ_ _ h=>h.dat l,g.1,g.2⟩
def OF {c':Gh}{St:Sb}(f:St.le c'.St):Ev (aI c'.w St) c' :=
 ⟨f,λ_ _ _ _ h=>h,λk cells h=>by simp[aI]at h,λk t e v h=>by simp[aI]at h,λk t e v l h=>by simp[aI]at h,λk h=>by simp[aI]at h,λk h=>by simp[aI]at h⟩
def Ks (hi:Inv B U C c)(ho:o.op = .call cl)(hcl:cl.callee = .value x)(hx:RA c (.fn f .pnil) [a.eval x])(hargs:RAs c args (cl.args.toList.map a.eval))(hm:GG P f args res) :
  Ok P B U C o a c c.heap res:=by
 obtain⟨R,hR,⟨fn,f1,f2,f3⟩,hm⟩:=hm;obtain⟨cs,e,hcs,_⟩:=hx;have hcs:cs=[]:=hcs;subst hcs;simp at e;have hbody:¬fn.body=none:=by cases hb:fn.body <;> simp_all
 have f3:¬fn.name = "runtime.NumGoroutine":=by simpa using f3
 have hrun:(execOp a.eval o).run P c.w = .ok (.enter f (cl.args.toList.map a.eval).toArray) c.w:=by have e2:cl.args.map a.eval=(cl.args.toList.map a.eval).toArray:=u_ Ψ;unfold execOp;simp[ho,resolve,hcl,e,Deferred.ofValue,invoke,callFunc,P_,f1,f3,hbody,e2]
 intro K Q h;unfold Oper.wp;rw[hrun];refine(hm c.w c.St hi.bnd _ (hR c _ hargs)).mono ?_;rintro _ w' ⟨v,St',rfl,hb,hdr,hs,hn,hj,hr⟩;obtain⟨hI,hE⟩:=hi.grow hb hs hn hdr hj;exact h v { c with w:=w',St:=St' } rfl hI hE (hr.mono (OF (c':={ c with w:=w',St:=St' }) (Sb.le.refl _)))
def acK (hi:Inv B U C c)(ho:o.op = .call cl)(hcl:cl.callee = .value x){cells:List AV}(hx:RA c (.fn f .pnil) [a.eval x])(hargs:RAs c (.box k 0::aC) (cl.args.toList.map a.eval))(hk:c.heap[k]? = some (.box cells))(hm:Uj P f cells aC res) :
  Ok P B U C o a c c.heap res:=by
 obtain⟨⟨fn,f1,f2,f3⟩,hm⟩:=hm;obtain⟨cs,e,hcs,_⟩:=hx;have hcs:cs=[]:=hcs;subst hcs;simp at e;have hbody:¬fn.body=none:=by cases hb:fn.body <;> simp_all
 have f3:¬fn.name = "runtime.NumGoroutine":=by simpa using f3
 have hrun:(execOp a.eval o).run P c.w = .ok (.enter f (cl.args.toList.map a.eval).toArray) c.w:=by have e2:cl.args.map a.eval=(cl.args.toList.map a.eval).toArray:=u_ Ψ;unfold execOp;simp[ho,resolve,hcl,e,Deferred.ofValue,invoke,callFunc,P_,f1,f3,hbody,e2]
 intro K Q h;unfold Oper.wp;rw[hrun];obtain⟨arr,t,b1,_,_,b4⟩:=hi.box k cells hk;generalize cl.args.toList.map a.eval=vs at hargs;match vs,hargs with
 |v0::vs,⟨hp,hr⟩=>
 obtain⟨_,_,ep⟩:=hp;simp at ep;rw[ep];refine(hm c (c.blk k) arr t vs b1 b4 hi.bnd hr).mono ?_;rintro _ w' ⟨v,rfl,hb,hdr,hra⟩;obtain⟨hI,hE⟩:=hi.grow (w':=w') (St':=c.St) hb (Sb.le.refl _) (λ_ _ x=>.inl x) hdr (λ_ _ _ _ x=>.inl x);exact h v { c with w:=w' } rfl hI hE (hra _)
def acE (hi:Inv B U C c)(ho:o.op = .call cl)(hcl:cl.callee = .value x){cells cells' :List AV}(hx:RA c (.fn f .pnil) [a.eval x])(hargs:RAs c (.box k 0::aC) (cl.args.toList.map a.eval))(hk:c.heap[k]? = some (.box cells))(hm:Ui P f cells aC cells' res) :
  Ok P B U C o a c (c.heap.set k (.box cells')) res:=by
 obtain⟨⟨fn,f1,f2,f3⟩,hm⟩:=hm;obtain⟨cs,e,hcs,_⟩:=hx;have hcs:cs=[]:=hcs;subst hcs;simp at e;have hbody:¬fn.body=none:=by cases hb:fn.body <;> simp_all
 have f3:¬fn.name = "runtime.NumGoroutine":=by simpa using f3
 have hrun:(execOp a.eval o).run P c.w = .ok (.enter f (cl.args.toList.map a.eval).toArray) c.w:=by have e2:cl.args.map a.eval=(cl.args.toList.map a.eval).toArray:=u_ Ψ;unfold execOp;simp[ho,resolve,hcl,e,Deferred.ofValue,invoke,callFunc,P_,f1,f3,hbody,e2]
 intro K Q h;unfold Oper.wp;rw[hrun];refine(hm B U C c hi k hk _ hargs).mono ?_;rintro _ w' ⟨v,c',rfl,hh,rfl,hI,hE,hr⟩;exact h v c' hh hI hE hr
def afR (hi:Inv B U C c)(ho:o.op = .call cl)(hcl:cl.callee = .value x){v:Nat}{l l':List t.den}(hx:RA c (.fn f .pnil) [a.eval x])(hargs:RAs c (.own k v t l::aC) (cl.args.toList.map a.eval))(hk:c.heap[k]? = some (.row t e v))(hm:aeP P f t e l aC l') :
  Ok P B U C o a c (c.heap.set k (.row t e (v+1))) (.own k (v+1) t l'):=by
 obtain⟨⟨fn,f1,f2,f3⟩,hm⟩:=hm;obtain⟨cs,ee,hcs,_⟩:=hx;have hcs:cs=[]:=hcs;subst hcs;simp at ee;have hbody:¬fn.body=none:=by cases hb:fn.body <;> simp_all
 have f3:¬fn.name = "runtime.NumGoroutine":=by simpa using f3
 have hrun:(execOp a.eval o).run P c.w = .ok (.enter f (cl.args.toList.map a.eval).toArray) c.w:=by have e2:cl.args.map a.eval=(cl.args.toList.map a.eval).toArray:=u_ Ψ;unfold execOp;simp[ho,resolve,hcl,ee,Deferred.ofValue,invoke,callFunc,P_,f1,f3,hbody,e2]
 intro K Q h;unfold Oper.wp;rw[hrun];refine(hm B U C c hi k v hk _ hargs).mono ?_;rintro _ w' ⟨r,c',rfl,hh,rfl,hI,hE,hr⟩;exact h r c' hh hI hE hr
def QJ (hi:Inv B U C c)(ho:o.op = .call cl)(hcl:cl.callee = .value x){l':List t.den}(hx:RA c (.fn f .pnil) [a.eval x])(hargs:RAs c (.nil::aC) (cl.args.toList.map a.eval))(hf:c.heap[fresh]? = some .none)(hm:aeP P f t e [] aC l') :
  Ok P B U C o a c (c.heap.set fresh (.row t e 1)) (.own fresh 1 t l'):=by
 obtain⟨⟨fn,f1,f2,f3⟩,hm⟩:=hm;obtain⟨cs,ee,hcs,_⟩:=hx;have hcs:cs=[]:=hcs;subst hcs;simp at ee;have hbody:¬fn.body=none:=by cases hb:fn.body <;> simp_all
 have f3:¬fn.name = "runtime.NumGoroutine":=by simpa using f3
 have hrun:(execOp a.eval o).run P c.w = .ok (.enter f (cl.args.toList.map a.eval).toArray) c.w:=by have e2:cl.args.map a.eval=(cl.args.toList.map a.eval).toArray:=u_ Ψ;unfold execOp;simp[ho,resolve,hcl,ee,Deferred.ofValue,invoke,callFunc,P_,f1,f3,hbody,e2]
 intro K Q h;unfold Oper.wp;rw[hrun];obtain⟨hI,hE⟩:=hi.addRow (k:=fresh) (n:=0) (t:=t) (e:=e) (s :=.slice none 0 0) (xs:=[]) hf (R_ _ _ _ _) (λb hb=>by simp[Value.ownBlock]at hb) (λk' b hb=>by simp[Value.ownBlock]at hb) (λb hb=>by simp[Value.ownBlock]at hb) (λb hb=>by simp[Value.ownBlock]at hb);have hk:(c.heap.set fresh (.row t e 0))[fresh]? = some (.row t e 0):=by rw[get_set,E' rfl,E' (ao hf)]
 generalize cl.args.toList.map a.eval=vs at hargs;match vs,hargs with
 |v0::vs,⟨h0,hr⟩=>
 have h0:[v0]=[.slice none 0 0]:=h0;cases h0;refine(hm B U C _ hI fresh 0 hk (.slice none 0 0::vs) ⟨⟨_,rfl, ?_,t,e,0,hk,ζ _,λ_=>by simp⟩,hr.mono hE⟩).mono ?_
 ·exact(repv_cell rfl).2 ⟨none,0,0,rfl,rfl,ζ _,.inl rfl⟩
 ·rintro _ w' ⟨r,c',rfl,hh,rfl,hI',hE',hr'⟩;exact h r c' (by rw[hh];simp) hI' (hE.trans hE') hr'
def afU (hi:Inv B U C c)(ho:o.op = .call cl)(hcl:cl.callee = .value x){l':List t.den}(hx:RA c (.fn f .pnil) [a.eval x])(hargs:RAs c args (cl.args.toList.map a.eval))(hf:c.heap[fresh]? = some .none)(hm:ahp P f t e args l') :
  Ok P B U C o a c (c.heap.set fresh (.row t e 1)) (.own fresh 1 t l'):=by
 obtain⟨⟨fn,f1,f2,f3⟩,hm⟩:=hm;obtain⟨cs,ee,hcs,_⟩:=hx;have hcs:cs=[]:=hcs;subst hcs;simp at ee;have hbody:¬fn.body=none:=by cases hb:fn.body <;> simp_all
 have f3:¬fn.name = "runtime.NumGoroutine":=by simpa using f3
 have hrun:(execOp a.eval o).run P c.w = .ok (.enter f (cl.args.toList.map a.eval).toArray) c.w:=by have e2:cl.args.map a.eval=(cl.args.toList.map a.eval).toArray:=u_ Ψ;unfold execOp;simp[ho,resolve,hcl,ee,Deferred.ofValue,invoke,callFunc,P_,f1,f3,hbody,e2]
 intro K Q h;unfold Oper.wp;rw[hrun];obtain⟨hI,hE⟩:=hi.addRow (k:=fresh) (n:=0) (t:=t) (e:=e) (s :=.slice none 0 0) (xs:=[]) hf (R_ _ _ _ _) (λb hb=>by simp[Value.ownBlock]at hb) (λk' b hb=>by simp[Value.ownBlock]at hb) (λb hb=>by simp[Value.ownBlock]at hb) (λb hb=>by simp[Value.ownBlock]at hb);have hk:(c.heap.set fresh (.row t e 0))[fresh]? = some (.row t e 0):=by rw[get_set,E' rfl,E' (ao hf)]
 refine(hm B U C _ hI fresh 0 hk _ (hargs.mono hE)).mono ?_;rintro _ w' ⟨r,c',rfl,hh,rfl,hI',hE',hr'⟩;exact h r c' (by rw[hh];simp) hI' (hE.trans hE') hr'
def aeQ (h:RAs c us []):us=[]:=by cases us with|nil=>rfl|cons _ _=>exact h.elim
def cL (h:RAs c us [v]):∃u,us=[u]∧RA c u [v]:=by
 match us,h with
 |[u],⟨r,_⟩=>exact⟨u,rfl,r⟩
 |_::_::_,⟨_,h⟩=>exact h.elim
def ub {vs:List Value}(h:RAs c us (v::vs)):∃u r,us=u::r∧RA c u [v]∧RAs c r vs:=by
 match us,h with
 |u::r,⟨g,f⟩=>exact⟨u,r,rfl,g,f⟩
def eD {v' :Value}(h:RAs c us [v,v']):∃u f,us=[u,f]∧RA c u [v]∧RA c f [v']:=by obtain⟨u,r,rfl,l,j⟩:=ub h;obtain⟨f,rfl,g⟩:=cL j;exact⟨u,f,rfl,l,g⟩
def Xm {v' v'' :Value}(h:RAs c us [v,v',v'']):∃u g f,us=[u,g,f]∧RA c u [v]∧RA c g [v']∧RA c f [v'']:=by obtain⟨u,r,rfl,C,p⟩:=ub h;obtain⟨g,f,rfl,l,j⟩:=eD p;exact⟨u,g,f,rfl,C,l,j⟩
def fH {f:Type}{l:List f}{x:f}(h:l[k]? = some x):l.set k x=l:=by
 apply X_;intro i;rw[get_set];split
 next e=>subst e;rw[E' (ao h),h]
 ·rfl
def az (T:Specs)(op:Op)(J:List AV)(fresh:Nat)(f:List HO)(g:HO):List HO :=
 match br T op J fresh with
 |some k=>f.set k g
 |none=>f
def nL {u:AV}{n:Int}(h:Fq u=some n)(r:RA c u [v]):∃k,v = .int k n:=by
 cases u with
 |val t x=>
  cases t with
  |int k =>cases h;exact⟨k,cU r.val_inv⟩
  |_=>simp[Fq]at h
 |_=>simp[Fq]at h
def zU {g f:Option Operand}{r:List AV}{J P:Option Int}(h:Bf g f r=some (J,P))(p:RAs c r ((g.toList++f.toList).map a.eval)):Hf (g.map a.eval) J∧Hf (f.map a.eval) P:=by
 cases g with
 |none=>
  cases f with
  |none =>have:=aeQ p;subst this;cases h;exact⟨anO,anO⟩
  |some y=>
   obtain⟨u,rfl,j⟩:=cL p;simp[Bf]at h;split at h
   next n l=>cases h;exact⟨anO,nL l j⟩
   ·cases h
 |some x=>
  cases f with
  |none=>
   obtain⟨u,rfl,j⟩:=cL p;simp[Bf]at h;split at h
   next n l=>cases h;exact⟨nL l j,anO⟩
   ·cases h
  |some y=>
   obtain⟨u,T,rfl,j,C⟩:=eD p;simp[Bf]at h;split at h
   next n m l R=>cases h;exact⟨nL l j,nL R C⟩
   ·cases h
def di {op:Op}{f:List HO}{g:HO}(h:∀k,br T op J fresh=some k→f[k]? = some g):az T op J fresh f g=f:=by
 unfold az;split
 next k hk=>exact fH (h k hk)
 ·rfl
set_option maxHeartbeats 1000000 in
def RV (tk:TabOk P tab)(ts:SpecsOk P T)(hi:Inv B U C c)(hg:g=true)(hv:RAs c J (o.op.operands.toList.map a.eval)){ho:HO}
  (hho:∀k,br T o.op J fresh=some k→c.heap[k]? = some ho) {out:AV} {ho':HO} (j:aak tab T o g J fresh ho=some (true,out,ho')):Ok P B U C o a c (az T o.op J fresh c.heap ho') out:=by
 unfold aak at j;cases R:o.op with
 |move x =>simp[R,Op.operands]at j hv;obtain⟨u,rfl,hu⟩:=cL (v:=a.eval x) hv;split at j <;> simp only[θ,ω,reduceCtorEq]at j;rename_i hx;simp at hx;obtain⟨_,rfl,rfl⟩:=j;exact S4 hi (.inl R) (hx ▸ hu)
 |assign x =>simp[R,Op.operands]at j hv;obtain⟨u,rfl,hu⟩:=cL (v:=a.eval x) hv;split at j <;> simp only[θ,ω,reduceCtorEq]at j;rename_i hx;simp at hx;obtain⟨_,rfl,rfl⟩:=j;exact S4 hi (.inr R) (hx ▸ hu)
 |pick x y z=>
  simp only[R,Op.operands]at j hv;obtain⟨u,u',u'',rfl,h1,h2,h3⟩:=Xm (v:=a.eval x) (v':=a.eval y) (v'':=a.eval z) hv;split at j
  next cb p q hx=>
   simp only[N',G_]at hx;obtain⟨rfl,rfl,rfl⟩:=hx;split at j
   ·rename_i t xx t' yy hp hq;split at j
    ·rename_i yy' hc;obtain⟨e,hyy⟩:=cast?_some hc;subst e;have hyy:yy'=yy:=hyy;subst hyy;simp only[θ,ω,ι]at j;obtain⟨⟨k1,k2⟩,rfl,rfl⟩:=j;refine Kl hi R h1 (λhb=>?_) (λhb=>?_) hp hq
     ·exact wh h2 k1 (by simp[hg,hb])
     ·exact wh h3 k2 (by simp[hg,hb])
    ·cases j
   ·cases j
  ·cases j
 |alloc t=>
  simp only[R]at j hho;have hf:=hho fresh rfl;split at j
  ·split at j
   next τ ht=>simp only[θ,ω]at j;obtain⟨_,rfl,rfl⟩:=j;exact EI hi tk R hf ht
   ·split at j
    next n ht=>simp only[θ,ω]at j;obtain⟨_,rfl,rfl⟩:=j;exact Kv hi tk R hf ht
    ·cases j
  ·cases j
 |box t x=>
  simp only[R,Op.operands]at j hv hho;have hf:=hho fresh rfl;obtain⟨u,rfl,hu⟩:=cL (v:=a.eval x) hv;split at j
  next hx=>
   simp only[N',G_]at hx;subst hx;split at j
   next hs=>simp only[θ,ω]at j;obtain⟨_,rfl,rfl⟩:=j;exact QR hi R hf hu hs
   ·cases j
  ·cases j
 |load t x=>
  simp only[R,Op.operands]at j hv hho;obtain⟨u,rfl,hu⟩:=cL (v:=a.eval x) hv;split at j
  next k off cells hx=>
   simp only[N',G_]at hx;subst hx;have hk:c.heap[k]? = some (.box cells):=hho k rfl;have hsame:az T (.load t x) [.box k off] fresh c.heap (.box cells)=c.heap:=by
    show c.heap.set k _=_;exact fH hk
   split at j
   ·rename_i τ ht;split at j
    ·rename_i hst;split at j
     ·rename_i h1;simp only[θ,ω]at j;obtain⟨_,rfl,rfl⟩:=j;rw[hsame];unfold acD at h1;split at h1
      next n hn=>simp only[ι]at h1;exact NC hi tk R hu hk ht hst hn (κ h1.1) h1.2
      ·cases h1
     ·split at j
      next y hy=>simp only[θ,ω]at j;obtain⟨_,rfl,rfl⟩:=j;rw[hsame];exact EF hi tk R hu hk ht hy
      ·cases j
    ·rename_i hs;split at j
     next u' hu'=>simp only[θ,ω]at j;obtain⟨_,rfl,rfl⟩:=j;rw[hsame];obtain⟨i,z,_,_,_,_,_,_,hund⟩:=tk.ty t τ ht;obtain⟨d,hd,hn⟩:=Dq (by simpa using hs) hund;exact yH hi R hu hk hd hn hu'
     ·cases j
   ·rename_i ht;split at j
    ·rename_i hc;split at j
     next u' hu'=>simp only[θ,ω]at j;obtain⟨_,rfl,rfl⟩:=j;rw[hsame];obtain⟨i,z,d,_,_,_,_,hd,hn⟩:=tk.cells t 1 hc;exact yH hi R hu hk hd (hn ht rfl) hu'
     ·cases j
    ·cases j
  next τ y hx=>
   simp only[N',G_]at hx;subst hx;split at j
   next ht=>simp only[θ,ω]at j;obtain⟨_,rfl,rfl⟩:=j;exact NB hi tk R hu ht
   ·cases j
  ·cases j
 |store t x y=>
  simp only[R,Op.operands]at j hv hho;obtain⟨u,u',rfl,h1,h2⟩:=eD (v:=a.eval x) (v':=a.eval y) hv;split at j
  next k off v cells hx=>
   simp only[N',G_]at hx;obtain⟨rfl,rfl⟩:=hx;have hk:c.heap[k]? = some (.box cells):=hho k rfl;split at j
   next hs=>simp only[ι,ο]at hs;simp only[θ,ω]at j;obtain⟨_,rfl,rfl⟩:=j;exact EE hi tk R h1 h2 hk hs.1.1 hs.1.2 hs.2
   ·cases j
  ·cases j
 |fieldAddr s x f=>
  simp only[R,Op.operands]at j hv;obtain⟨u,rfl,hu⟩:=cL (v:=a.eval x) hv;split at j
  next k off hx=>
   simp only[N',G_]at hx;subst hx;split at j
   next d hd=>simp only[θ,ω]at j;obtain⟨_,rfl,rfl⟩:=j;exact Ay hi tk R hu hd
   ·cases j
  next τ y hx=>
   simp only[N',G_]at hx;subst hx;split at j
   ·rename_i ht;split at j
    next τ' y' hp=>simp only[θ,ω]at j;obtain⟨_,rfl,rfl⟩:=j;exact Ax hi tk R hu ht hp
    ·cases j
   ·cases j
  ·cases j
 |field s x f=>
  simp only[R,Op.operands]at j hv;obtain⟨u,rfl,hu⟩:=cL (v:=a.eval x) hv;split at j
  next τ y hx=>
   simp only[N',G_]at hx;subst hx;split at j
   ·rename_i ht;split at j
    next τ' y' hp=>simp only[θ,ω]at j;obtain⟨_,rfl,rfl⟩:=j;exact YT hi tk R hu ht hp
    ·cases j
   ·cases j
  ·cases j
 |indexAddr t x y=>
  simp only[R,Op.operands]at j hv;obtain⟨u,u',rfl,h1,h2⟩:=eD (v:=a.eval x) (v':=a.eval y) hv;split at j
  next k off q n hx=>
   simp only[N',G_]at hx;obtain⟨rfl,rfl⟩:=hx;split at j
   next m hm=>simp only[θ,ω,ι,ο]at j;obtain⟨⟨k1,k2⟩,rfl,rfl⟩:=j;rw[di (by simpa only[R]using hho)];exact Kq hi tk R h1 h2 hm k1 k2
   ·cases j
  next s k n _ hx=>
   simp only[N',G_]at hx;obtain⟨rfl,rfl⟩:=hx;split at j
   next τ l hl=>simp only[θ,ω,ι,ο]at j;obtain⟨⟨k1,k2⟩,rfl,rfl⟩:=j;rw[di (by simpa only[R]using hho)];exact Kr hi tk R h1 h2 hl k1 k2
   ·cases j
  ·cases j
 |index t x y=>
  simp only[R,Op.operands]at j hv;obtain⟨u,u',rfl,h1,h2⟩:=eD (v:=a.eval x) (v':=a.eval y) hv;split at j
  next s k n hx=>
   simp only[N',G_]at hx;obtain⟨rfl,rfl⟩:=hx;split at j
   next l hl=>simp only[θ,ω,ι,ο]at j;obtain⟨⟨k1,k2⟩,rfl,rfl⟩:=j;exact Kn hi tk R h1 h2 hl k1 k2
   ·cases j
  ·cases j
 |binOp op tx x y ty=>
  simp only[R,Op.operands]at j hv;obtain⟨u,u',rfl,h1,h2⟩:=eD (v:=a.eval x) (v':=a.eval y) hv;simp only at j;split at j
  next cb v hb=>
   simp only[θ,ω]at j;obtain⟨rfl,rfl,rfl⟩:=j;have hb':=hb;unfold oN at hb;split at hb
   ·split at hb
    ·simp only[θ,ω,ο]at hb;obtain⟨hn,rfl⟩:=hb;exact(Nv hi R h1 h2 hn).1 rfl
    ·simp only[θ,ω,ο]at hb;obtain⟨hn,rfl⟩:=hb;exact(Nv hi R h1 h2 hn).2 rfl
    ·split at hb
     next hk=>subst hk;exact QU hi R h1 h2 hb
     ·cases hb
   ·exact QS hi R h1 h2 hb'
   ·exact NF hi tk R h1 h2 hb'
   ·exact QT hi tk R h1 h2 hb'
   ·exact GV hi tk R h1 h2 hb'
   ·cases hb
  ·cases j
 |unOp op t x=>
  simp only[R,Op.operands]at j hv;obtain⟨u,rfl,hu⟩:=cL (v:=a.eval x) hv;cases op <;> simp only at j <;> first|(cases j;done)|skip
  all_goals split at j
  all_goals first|(cases j;done)|skip
  all_goals
   rename_i hx;simp only[N',G_]at hx;subst hx;simp only[θ,ω]at j;obtain⟨_,rfl,rfl⟩:=j;first|exact afT hi R hu|exact afV hi R hu
 |convert s t x=>
  simp only[R,Op.operands]at j hv;obtain⟨u,rfl,hu⟩:=cL (v:=a.eval x) hv;split at j
  next k' n k τ hx ht hts=>
   simp only[N',G_]at hx;subst hx;simp only[θ,ω]at j;obtain⟨_,rfl,rfl⟩:=j;obtain⟨i,z,hin,_⟩:=tk.ty s _ hts;refine NE hi tk R hu ht ?_;obtain⟨_,_,_,_,_,_,_,_,hund⟩:=tk.ty s _ hts;cases hs:τ.isStruct with
   |true=>obtain⟨fs,hf,_⟩:=fZ hs hund;exact⟨_,hf⟩
   |false=>obtain⟨d,hd,_⟩:=Dq hs hund;exact⟨_,hd⟩
  next x2 hx ht hts=>
   simp only[N',G_]at hx;subst hx;split at j
   next l hl=>simp only[θ,ω]at j;obtain⟨_,rfl,rfl⟩:=j;exact GS hi tk R hu hl ht hts
   ·cases j
  ·cases j
 |build t parts=>
  simp only[R,Op.operands]at j hv;split at j
  next τ ht=>
   split at j
   ·rename_i hs;split at j
    ·rename_i hc;unfold ahI at hc;split at hc
     next n hn=>simp only[ι,ο,d_,Δ]at hc;simp only[θ,ω]at j;obtain⟨_,rfl,rfl⟩:=j;exact GT hi tk R hv ht hn hc.1.1 hc.1.2 hc.2
     ·cases hc
    ·split at j
     next y hy=>simp only[θ,ω]at j;obtain⟨_,rfl,rfl⟩:=j;exact yK hi tk R hv ht hs hy
     ·cases j
   ·cases j
  ·split at j
   ·rename_i n hn;split at j
    next hs=>simp only[ι]at hs;simp only[θ,ω]at j;obtain⟨_,rfl,rfl⟩:=j;exact Ku hi tk R hv hn (κ hs.1.1) hs.1.2 hs.2
    ·cases j
   ·split at j
    ·rename_i n hn;split at j
     next hs=>simp only[ι]at hs;simp only[θ,ω]at j;obtain⟨_,rfl,rfl⟩:=j;exact Kt hi tk R hv hn (κ hs.1.1) hs.1.2 hs.2
     ·cases j
    ·cases j
 |buildSlice t len parts=>
  simp only[R,Op.operands]at j hv hho;have hf:=hho fresh rfl;split at j
  next τ e ht hel=>
   split at j
   ·rename_i hs;simp only[ι,ο]at hs;split at j
    ·rename_i l hl;split at j
     ·simp only[θ,ω]at j;obtain⟨_,rfl,rfl⟩:=j;exact GU hi tk R hv ht hel hs.1.1 hs.1.2 hs.2 hl hf
     next hz=>simp only[θ,ω]at j;obtain⟨_,rfl,rfl⟩:=j;have h0:len=0:=κ (aiN.1 hz).2;exact Co hi tk (by rw[R,h0]) (hs.1.1.symm.trans h0) ht hel hf
    ·cases j
   ·cases j
  ·cases j
 |makeSlice t x y=>
  simp only[R,Op.operands]at j hv hho;have hf:=hho fresh rfl;obtain⟨u,u',rfl,h1,h2⟩:=eD (v:=a.eval x) (v':=a.eval y) hv;split at j
  next q n q' m hx=>
   simp only[N',G_]at hx;obtain⟨rfl,rfl⟩:=hx;split at j
   next τ e ht hel=>simp only[θ,ω,ι,ο]at j;obtain⟨⟨⟨k1,k2⟩,k3⟩,rfl,rfl⟩:=j;exact acP hi tk R hf h1 h2 ht hel k1 k2 k3
   ·cases j
  ·cases j
 |slice t x low high mx=>
  cases mx with
  |some m=>simp[R]at j
  |none=>
   simp only[R,Op.operands]at j hv;obtain⟨s,r,rfl,h1,h2⟩:=ub (v:=a.eval x) (vs:=(low.toList++high.toList).map a.eval) (by cases low <;> cases high <;> simpa using hv);simp only at j;split at j
   ·rename_i lo hi' hb;obtain⟨b1,b2⟩:=zU hb h2;split at j
    next τ l hl=>simp only[θ,ω]at j;obtain⟨k1,rfl,rfl⟩:=j;rw[di (by simpa only[R]using hho)];exact YP hi tk R h1 b1 b2 hl k1
    ·split at j
     next l hl=>simp only[θ,ω]at j;obtain⟨k1,rfl,rfl⟩:=j;rw[di (by simpa only[R]using hho)];exact Kk hi tk R h1 b1 b2 hl k1
     ·cases j
   ·cases j
 |extract x i=>
  simp only[R,Op.operands]at j hv;obtain⟨u,rfl,hu⟩:=cL (v:=a.eval x) hv;split at j
  next p hx=>
   simp only[N',G_]at hx;subst hx;split at j
   next u' hp=>simp only[θ,ω]at j;obtain⟨_,rfl,rfl⟩:=j;exact QP hi R hu hp
   ·cases j
  ·cases j
 |makeFunc fn first captured=>
  simp only[R,Op.operands]at j hv;cases fn <;> simp only at j <;> first|(cases j;done)|skip
  split at j
  next hs=>
   simp only[θ,ω]at j;obtain⟨_,rfl,rfl⟩:=j;have hfe:first = #[]:=aks.1 hs
   exact Nz hi R hs (by simpa[hfe]using hv)
  ·cases j
 |call cl=>
  simp only[R,Op.operands]at j hv hho;cases hcl:cl.callee with
  |invoke r m=>simp[hcl]at j
  |value x=>
   simp only[hcl]at j;have hv:RAs c J (a.eval x::cl.args.toList.map a.eval):=by simpa[Call.operands,hcl]using hv
   obtain⟨u,r,rfl,h1,h2⟩:=ub hv;split at j
   ·rename_i hnw;split at j
    ·rename_i f args hx;simp only[N']at hx;obtain⟨rfl,rfl⟩:=hx;split at j
     ·rename_i q hq;split at j
      ·rename_i b l' hF;simp only[θ,ω]at j;obtain⟨rfl,rfl,rfl⟩:=j;have htch:br T (.call cl) (.fn f .pnil::r) fresh=some fresh:=by simp only[br,hcl,hnw]
       have hf:=hho fresh htch;have hh:∀y,az T (.call cl) (.fn f .pnil::r) fresh c.heap y=c.heap.set fresh y:=λy=>by unfold az;rw[htch]
       rw[hh];exact afU hi R hcl h1 h2 hf (ts.nw f _ hq r l' hF)
      ·cases j
     ·cases j
    ·cases j
   ·rename_i hnw;split at j
    ·rename_i f k off aC hx;simp only[N']at hx;obtain⟨rfl,rfl⟩:=hx;split at j
     ·rename_i cells;split at j
      ·rename_i hoff;subst hoff;have hk:c.heap[k]? = some (.box cells):=hho k (by simp[br,hcl,hnw]);split at j
       ·split at j
        ·rename_i b v hT;simp only[θ,ω]at j;obtain⟨rfl,rfl,rfl⟩:=j;have:az T (.call cl) (.fn f .pnil :: .box k 0::aC) fresh c.heap (.box cells)=c.heap:=by
          simp only[az,br,hcl,hnw];exact fH hk
         rw[this];exact acK hi R hcl h1 h2 hk (ts.rd f cells aC _ hT)
        ·cases j
       ·split at j
        ·rename_i b cells' v hT;simp only[θ,ω]at j;obtain⟨rfl,rfl,rfl⟩:=j;have:az T (.call cl) (.fn f .pnil :: .box k 0::aC) fresh c.heap (.box cells')=c.heap.set k (.box cells'):=by
          simp only[az,br,hcl,hnw]
         rw[this];exact acE hi R hcl h1 h2 hk (ts.bx f cells aC cells' _ hT)
        ·cases j
      ·cases j
     ·cases j
    ·rename_i f k v t l aC hx;simp only[N']at hx;obtain⟨rfl,rfl⟩:=hx;split at j
     ·rename_i hwr;split at j
      ·rename_i q t' e' v' hq;split at j
       ·rename_i q1;subst q1;split at j
        ·rename_i q2;subst q2;split at j
         ·rename_i q3;subst q3;split at j
          ·rename_i l2 hc;obtain⟨et,hl2⟩:=cast?_some hc;injection et with et;obtain⟨qt,qe,qF⟩:=q;simp only at et;subst et;have hl2:l2=l:=hl2;subst hl2;split at j
           ·rename_i b l' hF;simp only[θ,ω]at j;obtain⟨rfl,rfl,rfl⟩:=j;have htch:br T (.call cl) (.fn f .pnil :: .own k v' t' l2::aC) fresh=some k:=by simp only[br,hcl,hnw,hwr]
            have hk:=hho k htch;have hh:∀y,az T (.call cl) (.fn f .pnil :: .own k v' t' l2::aC) fresh c.heap y=c.heap.set k y:=λy=>by unfold az;rw[htch]
            rw[hh];exact afR hi R hcl h1 h2 hk (ts.rb f _ hq l2 aC l' hF)
           ·cases j
          ·cases j
         ·cases j
        ·cases j
       ·cases j
      ·cases j
     ·rename_i hwr;split at j
      ·rename_i b u hT;simp only[θ,ω]at j;obtain⟨rfl,rfl,rfl⟩:=j;have:az T (.call cl) (.fn f .pnil :: .own k v t l::aC) fresh c.heap ho=c.heap:=by
        have ht:br T (.call cl) (.fn f .pnil :: .own k v t l::aC) fresh=none:=by simp only[br,hcl,hnw,hwr]
        simp only[az,ht]
       rw[this];exact Ks hi R hcl h1 h2 (ts.call f _ _ hT)
      ·cases j
    ·rename_i f aC hx;simp only[N']at hx;obtain⟨rfl,rfl⟩:=hx;split at j
     ·rename_i hwr;split at j
      ·rename_i q hq;split at j
       ·rename_i b l' hF;simp only[θ,ω]at j;obtain⟨rfl,rfl,rfl⟩:=j;have htch:br T (.call cl) (.fn f .pnil :: .nil::aC) fresh=some fresh:=by simp only[br,hcl,hnw,hwr]
        have hf:=hho fresh htch;have hh:∀y,az T (.call cl) (.fn f .pnil :: .nil::aC) fresh c.heap y=c.heap.set fresh y:=λy=>by unfold az;rw[htch]
        rw[hh];exact QJ hi R hcl h1 h2 hf (ts.rb f _ hq [] aC l' hF)
       ·cases j
      ·cases j
     ·rename_i hwr;split at j
      ·rename_i b u hT;simp only[θ,ω]at j;obtain⟨rfl,rfl,rfl⟩:=j;have:az T (.call cl) (.fn f .pnil :: .nil::aC) fresh c.heap ho=c.heap:=by
        have ht:br T (.call cl) (.fn f .pnil :: .nil::aC) fresh=none:=by simp only[br,hcl,hnw,hwr]
        simp only[az,ht]
       rw[this];exact Ks hi R hcl h1 h2 (ts.call f _ _ hT)
      ·cases j
    ·rename_i f args hno hno2 hno3 hx;simp only[N']at hx;obtain⟨rfl,rfl⟩:=hx;split at j
     ·rename_i b v hT;simp only[θ,ω]at j;obtain⟨rfl,rfl,rfl⟩:=j;have hm:=ts.call f r _ hT;have:az T (.call cl) (.fn f .pnil::r) fresh c.heap ho=c.heap:=by
       have ht:br T (.call cl) (.fn f .pnil::r) fresh=none:=by
        simp only[br,hcl,hnw];split
        next k off aC hq=>simp only[N']at hq;exact(hno _ _ _ hq.2).elim
        next k v t l aC hq=>simp only[N']at hq;exact(hno2 _ _ _ _ _ hq.2).elim
        next aC hq=>simp only[N']at hq;exact(hno3 _ hq.2).elim
        ·rfl
       simp only[az,ht]
      rw[this];exact Ks hi R hcl h1 h2 hm
     ·cases j
    ·cases j
  |builtin b=>
   simp only[hcl]at j;have hv:RAs c J (cl.args.toList.map a.eval):=by simpa[Call.operands,hcl]using hv
   cases b <;> simp only at j <;> first|(cases j;done)|skip
   case max=>
    have hh:az T (.call cl) J fresh c.heap ho=c.heap:=di hho;split at j
    ·rename_i k x k' y _;split at j
     ·rename_i hkk;subst hkk;simp only[θ,ω,ajQ]at j;obtain⟨rfl,rfl⟩:=j;rw[hh];have hal:∃p q,cl.args = #[p,q]:=by
       have:=hv.length;simp at this;match h:cl.args.toList,(by simpa using this.symm:cl.args.toList.length=2)with
       |[p,q],_=>exact⟨p,q,u_ (by simpa using h)⟩
      obtain⟨p,q,hpq⟩:=hal;rw[hpq]at hv;obtain⟨u,u',e,h1,h2⟩:=eD (v:=a.eval p) (v':=a.eval q) hv;simp only[N',G_]at e;obtain⟨rfl,rfl⟩:=e;have hpv:=cU h1.val_inv;have hqv:=cU h2.val_inv;refine aq hi (v :=.int k (th x y)) ?_ (cQ _ _);unfold execOp;simp[R,resolve,hcl,hpq,invoke,builtin,Builtin.max_,Builtin.max2,hpv,hqv,th]
     ·cases j
    ·cases j
   case len=>
    have hh:az T (.call cl) J fresh c.heap ho=c.heap:=di hho;split at j
    ·rename_i s;have hal:∃x,cl.args = #[x]:=by
      have:=hv.length;simp at this;exact ajD.1 this.symm
     obtain⟨x,hx⟩:=hal;rw[hx]at hv;obtain⟨u,e,hu⟩:=cL (v:=a.eval x) hv;simp only[N',G_]at e;subst e;cases hty:cl.argTypes[0]? with
     |none =>rw[hty]at j;simp[wT,x6]at j
     |some t=>
      rw[hty]at j;simp only[Option.bind_some]at j;split at j
      next τ l hl=>simp only[θ,ω]at j;obtain⟨_,rfl,rfl⟩:=j;rw[hh];exact af1 hi tk R hcl hx hty hu hl
      ·split at j
       next l hl=>simp only[θ,ω]at j;obtain⟨_,rfl,rfl⟩:=j;rw[hh];exact QO hi tk R hcl hx hty hu hl
       ·cases j
    ·cases j
   case append=>
    split at j
    ·rename_i s x t1 t2 htys _;have hty:cl.argTypes = #[t1,t2]:=u_ (by simpa using htys);have hal:∃p q,cl.args = #[p,q]:=by
      have:=hv.length;simp at this;match h:cl.args.toList,(by simpa using this.symm:cl.args.toList.length=2)with
      |[p,q],_=>exact⟨p,q,u_ (by simpa using h)⟩
     obtain⟨p,q,hpq⟩:=hal;rw[hpq]at hv;obtain⟨u,u',e,h1,h2⟩:=eD (v:=a.eval p) (v':=a.eval q) hv;simp only[N',G_]at e;obtain⟨rfl,rfl⟩:=e;split at j
     ·rename_i e12;subst e12;split at j
      ·rename_i e τ l' hel hl;split at j
       ·rename_i k v t l _;split at j
        ·rename_i t' e' v';split at j
         ·rename_i q1;split at j
          ·rename_i q2;split at j
           ·rename_i q3;split at j
            ·rename_i l2 hc;obtain⟨et,hl2⟩:=cast?_some hc;injection et with et;subst et;have hl2:l2=l:=hl2;subst hl2;subst q1;subst q2;subst q3;simp only[θ,ω,ο]at j;obtain⟨k1,rfl,rfl⟩:=j;have htch:br T (.call cl) [.own k v' t' l2,x] fresh=some k:=by simp only[br,hcl]
             have hk:=hho k htch;have hh:az T (.call cl) [.own k v' t' l2,x] fresh c.heap (.row t' e' (v'+1))=c.heap.set k (.row t' e' (v'+1)):=by unfold az;rw[htch]
             rw[hh];exact Vt hi tk R hcl hpq hty h1 h2 hl hel hk k1
            ·cases j
           ·cases j
          ·cases j
         ·cases j
        ·cases j
       ·split at j
        ·split at j
         ·simp only[θ,ω,ο]at j;obtain⟨k1,rfl,rfl⟩:=j;have htch:br T (.call cl) [.nil,x] fresh=some fresh:=by simp only[br,hcl]
          have hf:=hho fresh htch;have hh:az T (.call cl) [.nil,x] fresh c.heap (.row τ e 1)=c.heap.set fresh (.row τ e 1):=by unfold az;rw[htch]
          rw[hh];exact GW hi tk R hcl hpq hty h1 h2 hl hel hf k1
         ·rename_i l2 _ _ _;simp only[θ,ω,ο]at j;obtain⟨k1,rfl,rfl⟩:=j;have htch:br T (.call cl) [.nil,x] fresh=some fresh:=by simp only[br,hcl]
          have hf:=hho fresh htch;have hh:∀y,az T (.call cl) [.nil,x] fresh c.heap y=c.heap.set fresh y:=λy=>by unfold az;rw[htch]
          rw[hh];exact EH hi tk R hcl hpq hty h1 h2 hl hel hf k1
        ·cases j
       ·cases j
      ·cases j
     ·cases j
    ·cases j
 |nilCheck x=>
  simp only[R,Op.operands]at j hv;obtain⟨u,rfl,hu⟩:=cL (v:=a.eval x) hv;split at j
  next k off hx=>simp only[N',G_]at hx;subst hx;simp only[θ,ω,ajQ]at j;obtain⟨rfl,rfl⟩:=j;have hu':=hu;obtain⟨_,_,e⟩:=hu;simp only[N',G_]at e;refine aq hi (v:=a.eval x) ?_ hu';unfold execOp;simp[R,e]
  next t y hx=>simp only[N',G_]at hx;subst hx;simp only[θ,ω,ajQ]at j;obtain⟨rfl,rfl⟩:=j;have hu':=hu;obtain⟨ad,_,e,_⟩:=hu;simp only[N',G_]at e;refine aq hi (v:=a.eval x) ?_ hu';unfold execOp;simp[R,e]
  ·cases j
 |_=>simp[R]at j
def RR (tk:TabOk P tab)(hi:Inv B U C c)(R:RAs c J (o.op.operands.toList.map a.eval)){ho:HO}
  (j:∀k,br T o.op J fresh=some k→c.heap[k]? = some ho) {out:AV} {ho':HO} (g:aaj tab o J ho=some (true,out,ho')):Ok P B U C o a c (az T o.op J fresh c.heap ho') out:=by
 unfold aaj at g;split at g
 next τ e v' l=>
  have same:∀k,br T o.op J fresh=some k→az T o.op J fresh c.heap (.mrow τ e v' l)=c.heap:=λk hk=>by
   unfold az;rw[hk];exact fH (j k hk)
  have after:∀k ho',br T o.op J fresh=some k→az T o.op J fresh c.heap ho'=c.heap.set k ho':=λk ho' hk=>by unfold az;rw[hk]
  split at g
  next t x y hop=>
   rw[hop]at R j same;split at g
   ·rename_i k v lo hi' q n;obtain⟨u,u',e1,h1,h2⟩:=eD (v:=a.eval x) (v':=a.eval y) R;cases e1;split at g
    ·rename_i q1;subst q1;split at g
     ·rename_i q2;split at g
      ·simp at g;obtain⟨⟨k1,k2⟩,rfl,rfl⟩:=g;rw[hop,same k rfl];exact QM hi tk hop h1 h2 (j k rfl) q2 k1 k2
      ·cases g
     ·cases g
    ·cases g
   ·cases g
  next s x f hop=>
   rw[hop]at R j same;split at g
   ·rename_i k v i off;obtain⟨u,e1,h1⟩:=cL (v:=a.eval x) R;cases e1;split at g
    ·rename_i q1;subst q1;split at g
     next d hd=>cases g;rw[hop,same k rfl];exact QN hi tk hop h1 (j k rfl) hd
     ·cases g
    ·cases g
   ·cases g
  next t x hop=>
   rw[hop]at R j same;split at g
   ·rename_i k v i off;obtain⟨u,e1,h1⟩:=cL (v:=a.eval x) R;cases e1;split at g
    ·rename_i q1;subst q1;split at g
     ·rename_i τ' ht;split at g
      next y hy=>cases g;rw[hop,same k rfl];exact Vs hi tk hop h1 (j k rfl) ht hy
      ·cases g
     ·cases g
    ·cases g
   ·cases g
  next t x y hop=>
   rw[hop]at R j after;split at g
   ·rename_i k v i off u;obtain⟨u1,u2,e1,h1,h2⟩:=eD (v:=a.eval x) (v':=a.eval y) R;cases e1;split at g
    ·rename_i q1;subst q1;split at g
     ·rename_i τ' ht;split at g
      ·rename_i d hd;split at g
       next z hz=>cases g;rw[hop,after k _ rfl];exact QK hi tk hop h1 h2 (j k rfl) ht hd hz
       ·cases g
      ·cases g
     ·cases g
    ·cases g
   ·cases g
  next t x low high hop=>
   rw[hop]at R j same;split at g
   ·rename_i k v lo hi' r;obtain⟨s,r',e1,h1,h2⟩:=ub (v:=a.eval x) (vs:=(low.toList++high.toList).map a.eval) (by cases low <;> cases high <;> simpa[Op.operands]using R);cases e1;split at g
    ·rename_i q1;subst q1;split at g
     ·rename_i q2;split at g
      ·split at g
       next a1 b1 hb=>obtain⟨g1,g2⟩:=zU hb h2;simp at g;obtain⟨k1,rfl,rfl⟩:=g;rw[hop,same k rfl];exact QL hi tk hop h1 (j k rfl) q2 g1 g2 k1
       ·cases g
      ·cases g
     ·cases g
    ·cases g
   ·cases g
  next cl hop=>
   rw[hop]at R j same after;split at g
   ·rename_i hcl;replace R:RAs c J (cl.args.toList.map a.eval):=by simpa[Op.operands,Call.operands,hcl]using R
    split at g
    ·rename_i k v lo hi';have hal:∃x,cl.args = #[x]:=by
      have:=R.length;simp at this;exact ajD.1 this.symm
     obtain⟨x,hx⟩:=hal;rw[hx]at R;obtain⟨u,e1,hu⟩:=cL (v:=a.eval x) R;cases e1;have htch:br T (.call cl) [.msl k v lo hi'] fresh=some k:=by simp[br,hcl]
     split at g
     ·rename_i q1;subst q1;split at g
      ·rename_i q2;cases g;rw[hop,same k htch];cases hty:cl.argTypes[0]? with
       |none=>rw[hty]at q2;cases q2
       |some t =>rw[hty]at q2;exact YS hi tk hop hcl hx hty hu (j k htch) q2
      ·cases g
     ·cases g
    ·cases g
   ·rename_i hcl;replace R:RAs c J (cl.args.toList.map a.eval):=by simpa[Op.operands,Call.operands,hcl]using R
    split at g
    ·rename_i k v m x t1 t2 htys;have hty:cl.argTypes = #[t1,t2]:=u_ (by simpa using htys);have hal:∃p q,cl.args = #[p,q]:=by
      have:=R.length;simp at this;match h:cl.args.toList,(by simpa using this.symm:cl.args.toList.length=2)with
      |[p,q],_=>exact⟨p,q,u_ (by simpa using h)⟩
     obtain⟨p,q,hpq⟩:=hal;rw[hpq]at R;obtain⟨u,u',e1,h1,h2⟩:=eD (v:=a.eval p) (v':=a.eval q) R;cases e1;have htch:br T (.call cl) [.msl k v 0 m,x] fresh=some k:=by simp[br,hcl]
     split at g
     ·rename_i e12;subst e12;split at g
      ·rename_i q1;subst q1;split at g
       ·rename_i e1 τ1 l' hel hl;split at g
        ·rename_i q2;subst q2;split at g
         next l2 hc=>obtain⟨et,hl2⟩:=cast?_some hc;cases et;have hl2:l2=l':=hl2;subst hl2;simp at g;obtain⟨k1,rfl,rfl⟩:=g;rw[hop,after k _ htch];obtain⟨ht,hxv⟩:=eP hl h2;exact NA hi tk hop hcl hpq hty h1 ht (x8 hxv) hel (j k htch) k1
         ·cases g
        ·cases g
       ·cases g
      ·cases g
     ·cases g
    ·cases g
   ·cases g
  ·cases g
 ·cases g
def IK (p:TabOk P tab)(ts:SpecsOk P T)(hi:Inv B U C c)(hg:g=true)(R:RAs c J (o.op.operands.toList.map a.eval)){ho:HO}
  (j:∀k,br T o.op J fresh=some k→c.heap[k]? = some ho) {out:AV} {f:HO} (l:eff tab T o g J fresh ho=some (true,out,f)):Ok P B U C o a c (az T o.op J fresh c.heap f) out:=by
 unfold eff at l;split at l
 next r hr=>cases l;exact RR p hi R j hr
 ·exact RV p ts hi hg R j l
def RU (p:TabOk P tab)(r:Inv B U C c)(j:RAs c J (o.op.operands.toList.map a.eval)){out:AV}(f:agS tab o J=some out):Ok P B U C o a c c.heap out:=by
 unfold agS at f;split at f
 next t len parts hop=>
  rw[hop]at j;simp[Op.operands]at j;split at f
  next τ e ht hel=>
   split at f
   ·rename_i g;simp at g;split at f
    next l hl=>cases f;exact yJ r p hop (by simpa using j) ht hel g.1.1 g.1.2 g.2 hl
    ·cases f
   ·cases f
  ·cases f
 ·cases f
end
