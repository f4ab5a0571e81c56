/- Calls by contract. -/
import Derived.Test.YteiopcmalidhaaaGreatAbsJ
import Derived.Laws.MakeOwn
import Derived.Laws.BytesString
set_option linter.all false
namespace Go.Proofs.YteiopcmalidhaaaGreat
namespace Abs
open Go Go.RowKit
section
variable {P:Program}{tab:Tab}{B:Bd}{w0:World}{J:Sb}{c:Gh}{o:Oper}{a:Act}
variable{k v lo C i off size n cap fresh:Nat}{s:Value}{τ:Ty}{e t:TypeId}{x y:Operand}{w:World}{St:Sb}{u:AV}{A:Option Addr}{cl:Call}
def dX {l:List τ.den}(h:RA c (.msl k v lo C) [s])(g:c.heap[k]? = some (.mrow τ e v l)):rH (c.rv k) τ.size lo C s:=by
 obtain⟨J,p,_,m⟩:=h;cases p;rcases m with⟨t,R,r,P,f,_,j⟩|f
 ·rw[g]at f;injection f with f;injection f with q1 q2 q3 q4;subst q1;exact j q3.symm
 ·rw[g]at f;cases f
def Ei {l:List τ.den}(h:RA c (.mpt k v i off) [s])(g:c.heap[k]? = some (.mrow τ e v l)):ptS (c.rv k) τ.size i off s:=by
 obtain⟨C,p,_,m⟩:=h;cases p;rcases m with⟨t,P,r,J,f,_,j⟩|f
 ·rw[g]at f;injection f with f;injection f with q1 q2 q3 q4;subst q1;exact j q3.symm
 ·rw[g]at f;cases f
def Xi {r:Value}(h:rH r size lo C s):s.oneCell'=true:=by rcases h with⟨_,_,_,rfl⟩|⟨_,_,_,_,_,_,_,rfl,_⟩ <;> rfl
def su {l:List τ.den}(f:c.heap[k]? = some (.mrow τ e v l))(h:rH (c.rv k) τ.size lo C s):RA c (.msl k v lo C) [s] :=
 ⟨s,rfl,Xi h,.inl ⟨τ,e,v,l,f,ζ _,λ_=>h⟩⟩
def XM {l:List τ.den}(f:c.heap[k]? = some (.mrow τ e v l))(h:ptS (c.rv k) τ.size i off s):RA c (.mpt k v i off) [s] :=
 ⟨s,rfl,by obtain⟨_,_,_,_,_,rfl⟩:=h;rfl,.inl ⟨τ,e,v,l,f,ζ _,λ_=>h⟩⟩
def d9 {l:List τ.den}(C:Inv B w0 J c)(hk:c.heap[k]? = some (.mrow τ e v l)){g:Nat}(P:c.rv k = .slice (some ⟨g,0,none⟩) n cap) :
  n=l.length∧∃f r,c.w.heap[g]? = some (.cells f e (0,0))∧n≤cap∧cap≤maxLen∧f.size=cap*τ.size∧f.toList.take (n*τ.size)=r∧Rep c.w c.St (chain (toD τ) l) r∧(∀o,¬c.St g o)∧B≤g:=by
 obtain⟨r,U,j,R⟩:=C.mrow k τ e v l hk;rcases U.2 with⟨p,_⟩|⟨g',T,f,p,h2,h3,h4,h5,h6,h7⟩
 ·rw[P]at p;cases p
 ·rw[P]at p;injection p with q1 q2 q3;cases q1;subst q2;subst q3;exact⟨rfl,f,r,h3,h4,h5,h6,h7,j,R g (by rw[P];rfl),h2⟩
def Qq (C:Inv B w0 J c)(T:TabOk P tab)(ho:o.op = .indexAddr t x y){j :Nat}{q:IntKind}{n:Int}{l:List τ.den}(hx:RA c (.msl k v lo j) [a.eval x])(hy:RA c (.val (.int q) n) [a.eval y])
  (R:c.heap[k]? = some (.mrow τ e v l)) (ht:tab.ty t=some (.slice τ)) (h0:0≤n) (h1:n<((j-lo:Nat):Int)):Ok P B w0 J o a c c.heap (.mpt k v (lo+n.toNat) 0):=by
 obtain⟨i,z,_,_,_,_,_,_,hu⟩:=T.ty t _ ht;obtain⟨e',he,r,hel',hpos⟩:=hu;rcases dX hx R with⟨_,h2,h3,_⟩|⟨g,m,cap,A,U,hle,hm,hs,f⟩
 ·omega
 ·obtain⟨rfl,cur,xs,_,hnc,_⟩:=d9 C R U;have f:A=some ⟨g,lo*τ.size,none⟩:=by
   obtain f|f:=f
   ·exact f
   ·omega
  subst f;refine ao C (v :=.pointer (some ((⟨g,lo*τ.size,none⟩:Addr).add (n.toNat*τ.size)))) ?_ (XM R ⟨g,_,cap,U,Ω, ?_⟩)
  ·have p:=da hy.val_inv;unfold execOp;simp[ho,hs,p];simp[Instr.indexAt,asIntOf,ε he,h0,h1,az T r]
  ·rw[cN,Q_];rfl
def Qr (C:Inv B w0 J c)(R:TabOk P tab){s:TypeId}{f:Nat}(ho:o.op = .fieldAddr s x f){d:Nat}{l:List τ.den}(T:RA c (.mpt k v i off) [a.eval x])
  (r:c.heap[k]? = some (.mrow τ e v l)) (hd:tab.offs s f=some d):Ok P B w0 J o a c c.heap (.mpt k v i (off+d)):=by
 obtain⟨g,n,cap,U,p,hp⟩:=Ei T r;obtain⟨fs,fl,j,h1,h2,h3,h4,h5⟩:=R.offs s f d hd;refine ao C (v :=.pointer (some ⟨g,i*τ.size+(off+d),none⟩)) ?_ (XM r ⟨g,n,cap,U,p,rfl⟩);unfold execOp;have hj:¬j.size=0:=Ω
 simp[ho,hp,Instr.fieldAt,ε h1,h2,Instr.sureAddr,fieldPlace,sizeOf,typeInfo,h4,hj,cN,h3,O_]
def Uv:∀{t:Ty} {x:t.den} {off:Nat} {y:τ.den} {l:List Value},vJ τ t x off=some y→Rep w St (toD t x) l→off+τ.size≤l.length∧Rep w St (toD τ y) ((l.drop off).take τ.size):=by
 intro t;induction t with
 |cons A P j p=>
  intro x off y l h r;cases off with
  |zero=>
   unfold vJ at h;split at h
   next y' f=>obtain⟨e,f⟩:=cast?_some f;subst e;subst f;cases h;have:=r.size;refine⟨Ω, ?_⟩;rw[ait,←this,J_];exact r
   ·obtain⟨c1,c2,rfl,r1,r2⟩:=r;obtain⟨C,g⟩:=j h r1;refine⟨by simp;omega, ?_⟩;rw[ait]at g⊢;rw[aiS Ω];exact g
  |succ n=>
   simp[vJ]at h;obtain⟨c1,c2,rfl,r1,r2⟩:=r;have J:=r1.size;split at h
   next hlt=>obtain⟨C,g⟩:=j h r1;refine⟨by simp;omega, ?_⟩;rw[aiT Ω,aiS Ξ];exact g
   next hlt=>obtain⟨C,g⟩:=p h r2;refine⟨by simp;omega, ?_⟩;rw[List.drop_append,ajh Ω,t_,J];exact g
 |_=>
  intro x off y l h r;cases off with
  |zero=>
   unfold vJ at h;split at h
   next y' f=>obtain⟨e,f⟩:=cast?_some f;subst e;subst f;cases h;have:=r.size;refine⟨Ω, ?_⟩;rw[ait,←this,J_];exact r
   ·cases h
  |succ n=>simp[vJ]at h
def UI {y:τ.den}{j:List Value}(R:Rep w St (toD τ y) j):∀{t:Ty} {x z:t.den} {off:Nat} {g:List Value},vM τ y t x off=some z→Rep w St (toD t x) g →
  off+j.length≤g.length∧Rep w St (toD t z) (g.take off++j++g.drop (off+j.length)):=by
 have C:=R.size;intro t;induction t with
 |cons A Bt l P=>
  intro x z off g h r;cases off with
  |zero=>
   unfold vM at h;split at h
   next y' f=>obtain⟨e,f⟩:=cast?_some f;subst e;subst f;cases h;have:=r.size;refine⟨Ω, ?_⟩;rw[t?,t_,Z',C,←this,ajY,m?];exact R
   ·simp only at h;split at h
    next U p=>cases h;obtain⟨c1,c2,rfl,r1,r2⟩:=r;obtain⟨h1,J⟩:=l p r1;refine⟨by simp;omega,_,c2, ?_,J,r2⟩;simp only[t?,t_,Z']at *;rw[aiT Ω,w_]
    ·cases h
  |succ n=>
   simp[vM]at h;obtain⟨c1,c2,rfl,r1,r2⟩:=r;have hs:=r1.size;split at h
   ·rename_i T;split at h
    next U p=>cases h;obtain⟨h1,J⟩:=l p r1;refine⟨by simp;omega,_,c2, ?_,J,r2⟩;rw[aiS Ω,aiT Ω];simp
    ·cases h
   ·rename_i T;split at h
    ·rename_i U p;cases h;obtain⟨h1,J⟩:=P p r2;refine⟨by simp;omega,c1,_, ?_,r1,J⟩;rw[List.take_append,List.drop_append,V? Ω,ajh Ω,t_,hs,w_,w_,w_,
      show n+1+j.length-A.size=n+1-A.size+j.length by omega]
    ·cases h
 |_=>
  intro x z off g h r;cases off with
  |zero=>
   unfold vM at h;split at h
   next y' f=>obtain⟨e,f⟩:=cast?_some f;subst e;subst f;cases h;have:=r.size;refine⟨Ω, ?_⟩;rw[t?,t_,Z',C,←this,ajY,m?];exact R
   ·cases h
  |succ n=>simp[vM]at h
def Iz {w:World}{St:Sb}{t:Ty}:∀{l:List t.den} {f:List Value} {i:Nat} {z:t.den} {g:List Value},Rep w St (chain (toD t) l) f→i<l.length→Rep w St (toD t z) g →
  Rep w St (chain (toD t) (l.set i z)) (f.take (i*t.size)++g++f.drop (i*t.size+t.size))
 |x::l,f,0,z,g,h,_,p=>by obtain⟨c1,c2,rfl,j,J⟩:=h;have r:=j.size;refine⟨g,c2, ?_,p,J⟩;rw[aiv,t?,t_,Z',←r,ai3]
 |x::l,f,i+1,z,g,h,C,p=>by obtain⟨c1,c2,rfl,j,J⟩:=h;have r:=j.size;have:=Iz J (by simpa using C) p;refine⟨c1,_, ?_,j,this⟩;rw[show(i+1)*t.size=c1.length+i*t.size by rw[Q_,r];omega,O_,ai1,a?,w_,w_,w_]
def NV {f:Type}{l:List f}{d:f}(h:i<l.length):l.getD i d=l[i]:=by simp[List.getD,δ h]
def Va (C:Inv B w0 J c)(tk:TabOk P tab)(ho:o.op = .load t x){f :Ty}{l:List τ.den}{y:f.den}(hx:RA c (.mpt k v i off) [a.eval x])
  (hk:c.heap[k]? = some (.mrow τ e v l)) (ht:tab.ty t=some f) (hy:vJ f τ (l.getD i (zero τ)) off=some y):Ok P B w0 J o a c c.heap (.val f y):=by
 obtain⟨g,n,cap,hr,hin,hp⟩:=Ei hx hk;obtain⟨rfl,cur,xs,hg,hnc,_,hcs,htk,R,_⟩:=d9 C hk hr;have he:=pT R i hin;rw[NV hin]at hy;obtain⟨hle,r⟩:=Uv hy he;have hxl:=bh R;have hlen2:((xs.drop (i*τ.size)).take τ.size).length≤τ.size:=by simp;omega
 have T:∀j u,((((xs.drop (i*τ.size)).take τ.size).drop off).take f.size)[j]? = some u→c.w.cell? ((⟨g,i*τ.size+off,none⟩:Addr).add j)=some u:=by
  intro j u p;rw[K']at p;split at p
  next hj=>
   rw[b_,K']at p;split at p
   ·rw[b_,←htk,K']at p;split at p
    ·rw[cN];simp[World.cell?,hg];simpa[O_]using p
    ·cases p
   ·cases p
  ·cases p
 obtain⟨v',hrun,U⟩:=cB tk ht c.w ⟨g,i*τ.size+off,none⟩ _ r.size T;refine ao C (v:=v') ?_ ⟨v',rfl,fO r U⟩;unfold execOp;simp[ho,hp,Instr.loadAt,Instr.sureAddr,hrun]
def Jf (w:World)(g:Nat)(j:Array Value):w.grownBy (w.setRow g j) (some g) :=
 ⟨rfl,rfl,rfl,by simp[World.setRow],λb _ f=>aiY _ _ _ _ (λe=>f (by rw[e]))⟩
def LH (C:Inv B w0 J c){l l2:List τ.den}(hk:c.heap[k]? = some (.mrow τ e v l)){g:Nat}(P:c.rv k = .slice (some ⟨g,0,none⟩) n cap){cur:Array Value}
  (hg:c.w.heap[g]? = some (.cells cur e (0,0))) (hl:l2.length=l.length) {f:Array Value} (ha:f.size=cur.size) (r:Rep c.w c.St (chain (toD τ) l2) (f.toList.take (n*τ.size))) :
  let c':Gh:={ c with heap:=c.heap.set k (.mrow τ e v l2),w:=c.w.setRow g f,St:=c.St,rv:=λi=>if i=k then c.rv k else c.rv i }
  Inv B w0 J c'∧Ev c c':=by
 obtain⟨hn,cur',xs,U,hnc,hcm,hcs,htk,hrp,T,hB⟩:=d9 C hk P;rw[hg]at U;cases U;have R:obk c k=some g:=by unfold obk;rw[hk,P];rfl
 have j:∀(p:Addr) u,c.St p.block p.off→p.spot=none→c.w.cell? p=some u→(c.w.setRow g f).cell? p=some u:=λp u hst _ hc=>by have:p.block≠g:=λe=>T p.off (e ▸ hst);exact(ais (aiY _ _ _ _ this)).trans hc
 refine C.obj (ak hk) (by rw[R];exact Jf _ _ _) (ζ _) (Sb.le.refl _) (λ_ _ _ _ x=>x) (λ_ _ x=>.inl x) j (.inr ⟨τ,e,v,l,hk,.inl ⟨v,l2,rfl,ζ _,λ_=>rfl⟩⟩)
  (.inr ⟨τ,e,v,l2,rfl,.inr (.inl (by rw[R,P];rfl)),f.toList.take (n*τ.size),⟨?_,.inr ⟨g,cap,f, ?_,hB,ajo _ _ _ _ _ _ hg,Ω,hcm,by rw[ha,hcs],by rw[hl,←hn]⟩⟩,r.mono (Sb.le.refl _) j,λb hb o=>?_⟩)
 ·have h1:n*τ.size≤f.toList.length:=by rw[ω,ha,hcs];exact g_ _ hnc
  rw[l_,aiA h1,hl,←hn]
 ·rw[P,hl,←hn]
 ·rw[P]at hb;simp only[Value.ownBlock,θ]at hb;rw[←hb];exact T o
def Qo (C:Inv B w0 J c)(tk:TabOk P tab)(ho:o.op = .store t x y){r :Ty}{l:List τ.den}{d:r.den}{z:τ.den}(hx:RA c (.mpt k v i off) [a.eval x])(hy:RA c u [a.eval y])
  (hk:c.heap[k]? = some (.mrow τ e v l)) (ht:tab.ty t=some r) (hd:dat? r u=some d) (hz:vM r d τ (l.getD i (zero τ)) off=some z):Ok P B w0 J o a c (c.heap.set k (.mrow τ e v (l.set i z))) .unk:=by
 obtain⟨g,n,cap,hr,R,hp⟩:=Ei hx hk;obtain⟨hn,f,xs,hg,hnc,hcm,hcs,htk,p,hns,hB⟩:=d9 C hk hr;subst hn;have he:=pT p i R;rw[NV R]at hz;have U:=(dat?_sound hd hy).cells;have hds:=U.size;obtain⟨hle,hset⟩:=UI U hz he;have hch:=Iz p R hset;have hxl:=bh p;obtain⟨ii,zz,T,hsz,_⟩:=tk.ty t _ ht;have hcl:f.toList.length=cap*τ.size:=by rw[ω,hcs]
 have hni:i*τ.size+τ.size≤l.length*τ.size:=by rw[←Nat.succ_mul];exact g_ _ R
 have hnc':l.length*τ.size≤cap*τ.size:=g_ _ hnc;have hseg:((xs.drop (i*τ.size)).take τ.size).length=τ.size:=by simp;omega
 rw[hseg]at hle;generalize hcy:(a.eval y).cells.toList=cy at *;have hfit:i*τ.size+off+0+cy.length≤f.size:=by rw[hcs];omega
 have hst:=j? (P:=P) g (i*τ.size+off) e cy 0 f c.w hg hfit U.one;simp at hst;have hA:(f.toList.take (i*τ.size+off)++cy++f.toList.drop (i*τ.size+off+cy.length)).toArray.size=f.size:=by simp;omega
 have hT:((f.toList.take (i*τ.size+off)++cy++f.toList.drop (i*τ.size+off+cy.length)).toArray.toList.take (l.length*τ.size)) =
   xs.take (i*τ.size)++(((xs.drop (i*τ.size)).take τ.size).take off++cy++((xs.drop (i*τ.size)).take τ.size).drop (off+cy.length))++xs.drop (i*τ.size+τ.size):=by
  rw[←htk];apply X_;intro j;simp only[K',List.getElem?_append,b_,l_,P',ajV,hcl];by_cases h1:j<i*τ.size
  ·have e1:j<l.length*τ.size:=Ω
   have e2:j<min (i*τ.size+off) (cap*τ.size):=Ω
   simp only[e1,h?];repeat (first|rw[β Ω]|rw[B' Ω])
  ·by_cases h2:j<i*τ.size+off
   ·repeat (first|rw[β Ω]|rw[B' Ω])
    congr 1;omega
   ·by_cases h3:j<i*τ.size+off+cy.length
    ·repeat (first|rw[β Ω]|rw[B' Ω])
     congr 1;omega
    ·by_cases h4:j<i*τ.size+τ.size
     ·repeat (first|rw[β Ω]|rw[B' Ω])
      congr 1;omega
     ·by_cases h5:j<l.length*τ.size
      ·repeat (first|rw[β Ω]|rw[B' Ω])
       congr 1;omega
      ·repeat (first|rw[β Ω]|rw[B' Ω])
 obtain⟨hI,hE⟩:=LH C hk hr hg (l2:=l.set i z) Ψ hA (by rw[hT];exact hch);intro K Q h;have hrun:(execOp a.eval o).run P c.w = .ok .skip (c.w.setRow g (f.toList.take (i*τ.size+off)++cy++f.toList.drop (i*τ.size+off+cy.length)).toArray):=by
  unfold execOp;have hcs':(a.eval y).cells.size=ii.size:=by rw[hsz,←Array.length_toList,hcy,hds]
  simp[ho,hp,Instr.storeAt,Instr.sureAddr,storeVar,sizeOf,typeInfo,T,hcs',hcy,hst]
 unfold Oper.wp;rw[hrun];exact h undef _ rfl hI hE ⟨_,rfl⟩
def Xh {r:Value}{j:Nat}(h:rH r size lo C s)(J:s = .slice A n cap)(P:n≤cap)(R:i≤j)(hj:j≤C-lo) :
  rH r size (lo+i) (lo+j) (.slice (if cap=i then A else A.map (·.add (i*size))) (j-i) (cap-i)):=by
 rcases h with⟨p,rfl,rfl,l⟩|⟨g,m,U,A',p,h2,h3,l,f⟩
 ·rw[J]at l;injection l with q1 q2 q3;subst q1;subst q2;subst q3;have:i=0:=Ω
  have:j=0:=Ω
  subst i;subst j;exact .inl ⟨p,rfl,rfl,rfl⟩
 ·rw[J]at l;injection l with q1 q2 q3;subst q1;subst q2;subst q3;refine .inr ⟨g,m,U,_,p,Ω,Ω,by rw[show lo+j-(lo+i)=j-i by omega,Nat.sub_sub], ?_⟩;split
  next hc=>
   by_cases T:i=0
   ·subst T;obtain f|f:=f
    ·exact .inl (by rw[f,F?])
    ·exact .inr ⟨Ω,Ω⟩
   ·refine .inr ⟨?_,Ω⟩;omega
  next hc=>
   obtain f|f:=f
   ·left;rw[f];simp[aiV,cN,Q_]
   ·omega
def CZ {r:Value}(h:rH r size lo C s):∃A cap,s = .slice A (C-lo) cap:=by
 rcases h with⟨_,rfl,rfl,rfl⟩|⟨g,m,f,j,_,_,_,rfl,_⟩
 ·exact⟨_,_,rfl⟩
 ·exact⟨_,_,rfl⟩
def Xj {l:List τ.den}(R:Inv B w0 J c)(P:c.heap[k]? = some (.mrow τ e v l))(h:rH (c.rv k) τ.size lo C s)(j:s = .slice A n cap):n≤cap∧n=C-lo:=by
 rcases h with⟨p,rfl,rfl,f⟩|⟨g,m,cp,A',p,h2,U,f,T⟩
 ·rw[j]at f;injection f with _ f T;omega
 ·rw[j]at f;injection f with _ f h6;obtain⟨_,_,_,_,r,_⟩:=d9 R P p;omega
def Qp (C:Inv B w0 J c)(tk:TabOk P tab){r j:Option Operand}(ho:o.op = .slice t x r j none){g :Nat}{l:List τ.den}(hx:RA c (.msl k v lo g) [a.eval x])
  (hk:c.heap[k]? = some (.mrow τ e v l)) (ht:tab.ty t=some (.slice τ)) {R b1:Option Int} (hlo:GP (r.map a.eval) R) (hhi:GP (j.map a.eval) b1) (hc:(aI R b1 (g-lo)).1=true) :
  Ok P B w0 J o a c c.heap (.msl k v (lo+(aI R b1 (g-lo)).2.1) (lo+(aI R b1 (g-lo)).2.2)):=by
 obtain⟨i,z,_,_,_,_,_,_,hu⟩:=tk.ty t _ ht;obtain⟨e',he,T,_⟩:=hu;have f:=dX hx hk;obtain⟨A,cap,U⟩:=CZ f;obtain⟨p,_⟩:=Xj C hk f U;obtain⟨h1,h2,h3⟩:=jT (P:=P) c.w true (g-lo) cap hlo hhi hc p;refine ao C ?_ (su hk (Xh f U p h2 h3));unfold execOp;simp[ho,U,Instr.sliceAt,ξ,ε he,Instr.slice,h1,az tk T,a_]
def Yp (C:Inv B w0 J c)(r:TabOk P tab)(ho:o.op = .call cl)(p:cl.callee = .builtin .len)(f:cl.args = #[x])(j:cl.argTypes[0]? = some t){g :Nat}{l:List τ.den}(R:RA c (.msl k v lo g) [a.eval x])
  (hk:c.heap[k]? = some (.mrow τ e v l)) (U:tab.ty t=some (.slice τ)):Ok P B w0 J o a c c.heap (.val (.int .i64) ((g-lo:Nat):Int)):=by
 obtain⟨i,z,_,_,_,_,_,_,T⟩:=r.ty t _ U;obtain⟨e',he,_⟩:=T;obtain⟨A,cap,hs⟩:=CZ (dX R hk);refine ao C ?_ (cU _ _);unfold execOp;simp[ho,resolve,p,f,invoke,builtin,Builtin.len_,j,hs,ε he,goInt]
def abL (C:Inv B w0 J c){m:Nat}{l:List τ.den}(T:c.heap[k]? = some (.mrow τ e v l))(h:rH (c.rv k) τ.size 0 m s) :
  m≤l.length∧s.ownBlock=obk c k∧∃r,c.w.ownsRow B e τ.size s m r∧Rep c.w c.St (chain (toD τ) (l.take m)) r:=by
 obtain⟨r,hown,hrep,_⟩:=C.mrow k τ e v l T;have f:obk c k=(c.rv k).ownBlock:=by unfold obk;rw[T]
 rcases h with⟨p,_,rfl,rfl⟩|⟨g,n,cap,A,p,_,h3,rfl,h5⟩
 ·exact⟨c_ _,by rw[f,p],[],M_ _ _ _ _,rfl⟩
 ·obtain⟨rfl,j,xs',hg,hnc,hcm,U,P,R,_,hB⟩:=d9 C T p;obtain rfl|⟨_,h5⟩:=h5
  ·refine⟨h3,by rw[f,p];rfl,j.toList.take (m*τ.size),⟨?_,.inr ⟨g,cap,j, ?_,hB,hg,Ω,hcm,U,rfl⟩⟩, ?_⟩
   ·have:m*τ.size≤cap*τ.size:=g_ _ Ω;simp;omega
   ·rw[aiv,aiZ,aiZ]
   ·have:=iW m h3 R;rw[←P,aj6]at this;rw[aiA (g_ _ h3)]at this;exact this
  ·omega
def CY {v:Value}{f:List Value}(h:w.ownsRow B e size v n f):rH v size 0 n v:=by
 rcases h.2 with⟨rfl,rfl⟩|⟨g,cap,j,rfl,_⟩
 ·exact .inl ⟨rfl,rfl,rfl,rfl⟩
 ·exact .inr ⟨g,n,cap,some ⟨g,0,none⟩,rfl,c_ _,ζ _,Ψ,.inl Ψ⟩
def M5 (C:Inv B w0 J c)(tk:TabOk P tab){s:Operand}(ho:o.op = .call cl)(hcl:cl.callee = .builtin .append)(hargs:cl.args = #[s,x])(hty:cl.argTypes = #[t,t]){m:Nat}{l f:List τ.den}
  (hs:RA c (.msl k v 0 m) [a.eval s]) (ht:tab.ty t=some (.slice τ)) (hx:∃A cp ds,a.eval x = .slice A f.length cp∧Rep c.w c.St (chain (toD τ) f) ds∧ds.length=f.length*τ.size∧(f.length=0∨∃p,A=some p∧∀j u,ds[j]? = some u→c.w.cell? (p.add j)=some u))
  (he:tab.elem t=some e) (hk:c.heap[k]? = some (.mrow τ e v l)) (hlim:m+f.length≤LIM) :
  Ok P B w0 J o a c (c.heap.set k (.mrow τ e (v+1) (l.take m++f))) (.msl k (v+1) 0 (m+f.length)):=by
 obtain⟨i,z,_,_,_,_,_,_,hu⟩:=tk.ty t _ ht;obtain⟨T,u1,u2,u3,hpos⟩:=hu;have:T=e:=by rw[he]at u3;exact(π u3).symm
 subst this;obtain⟨ie,ze,t1,t2,t3,t4,t5,_⟩:=tk.ty T τ u2;have U:=dX hs hk;obtain⟨hml,r,xs,hown,hrep⟩:=abL C hk U;obtain⟨A,cp,ds,ex,hrx,hdl,hsrc⟩:=hx;obtain⟨r63,rby⟩:=nW hlim t5;obtain⟨v',w',hrun,h2,h3,h4,h5,hd⟩:=cV (P:=P) (B:=B) c.w t o.type T ie ze τ.size ie.bytes u1 t1 t3 t2 rfl (by rw[←Array.length_toList,t4,←(dn (w:=c.w) (St:=c.St) τ).size]) hpos (a.eval s) m xs hown A f.length cp ds hdl hsrc hrx.one r63 rby C.size;obtain⟨_,_,_,hns⟩:=C.mrow k τ T v l hk;have R:obk c k=(c.rv k).ownBlock:=by unfold obk;rw[hk]
 have g:∀(p:Addr) u,c.St p.block p.off→p.spot=none→c.w.cell? p=some u→w'.cell? p=some u:=λp u hst _ hc=>by refine h3.cell hc (λe=>?_);rw[r,R]at e;exact hns p.block e.symm p.off hst
 have hlen:(l.take m++f).length=m+f.length:=by simp;omega
 have hnst:∀b,v'.ownBlock=some b→∀o,¬c.St b o:=λb hb o x=>by
  obtain h4|h4:=h4
  ·rw[h4,r,R]at hb;exact hns b hb o x
  ·rw[h4]at hb;injection hb with hb;have:=C.bnd _ _ x;omega
 obtain⟨hI,hE⟩:=C.obj (k:=k) (ho' :=.mrow τ T (v+1) (l.take m++f)) (w':=w') (St':=c.St) (r':=v') (ak hk) (by rw[←r];exact h3) hd (Sb.le.refl _) (λ_ _ _ _ x=>x) (λ_ _ x=>.inl x) g
  (.inr ⟨τ,T,v,l,hk,.inl ⟨v+1,_,rfl,Ω,λh=>Ω⟩⟩)
  (.inr ⟨τ,T,v+1,_,rfl,.inr (by rw[←r];exact h4),xs++ds,by rw[hlen];exact h2,(fC hrep hrx).mono (Sb.le.refl _) g,hnst⟩)
 refine db (v:=v') (fX ho hcl hargs hty (by rw[ex];exact hrun)) rfl hI hE (su (l:=l.take m++f) (e:=T) (τ:=τ) ?_ ?_)
 ·show(c.heap.set k _)[k]? = _;rw[get_set,β rfl,β (ak hk)]
 ·show rH (if k=k then v' else c.rv k) τ.size 0 (m+f.length) v';rw[β rfl];exact CY h2
def DV (C:Inv B w0 J c)(tk:TabOk P tab){s:Operand}(ho:o.op = .call cl)(hcl:cl.callee = .builtin .append)(p:cl.args = #[s,x])(hty:cl.argTypes = #[t,t]){j:List τ.den}
  (hs:RA c .nil [a.eval s]) (hx:RA c u [a.eval x]) (hl:wv (tab.ty t) u=some ⟨τ,j⟩) (he:tab.elem t=some e) (hf:c.heap[fresh]? = some .none) (hlim:j.length≤LIM) :
  Ok P B w0 J o a c (c.heap.set fresh (.mrow τ e 1 j)) (.msl fresh 1 0 j.length):=by
 obtain⟨ht,hxv⟩:=eP hl hx;obtain⟨i,z,_,_,_,_,_,_,hu⟩:=tk.ty t _ ht;obtain⟨r,u1,u2,u3,hpos⟩:=hu;have:r=e:=by rw[he]at u3;exact(π u3).symm
 subst this;obtain⟨ie,ze,t1,t2,t3,t4,t5,_⟩:=tk.ty r τ u2;obtain⟨A,cp,ds,ex,hrx,hdl,hsrc⟩:=xF hxv;obtain⟨r63,rby⟩:=nW hlim t5;have hs:[a.eval s]=[.slice none 0 0]:=hs;simp at hs;obtain⟨R,w',hrun,h2,h3,T,h5,hd⟩:=cV (P:=P) (B:=B) c.w t o.type r ie ze τ.size ie.bytes u1 t1 t3 t2 rfl (by rw[←Array.length_toList,t4,←(dn (w:=c.w) (St:=c.St) τ).size]) hpos (.slice none 0 0) 0 [] (M_ _ _ _ _) A j.length cp ds hdl hsrc hrx.one (by simpa using r63) (by simpa using rby) C.size;have f:obk c fresh=none:=by unfold obk;rw[hf]
 have g:∀(U:Addr) u,c.St U.block U.off→U.spot=none→c.w.cell? U=some u→w'.cell? U=some u:=λU u hst _ hc=>by refine h3.cell hc (λe=>?_);cases e
 have hnst:∀b,R.ownBlock=some b→∀o,¬c.St b o:=λb hb o x=>by
  obtain T|T:=T
  ·rw[T]at hb;cases hb
  ·rw[T]at hb;injection hb with hb;have:=C.bnd _ _ x;omega
 have h2':w'.ownsRow B r τ.size R j.length ds:=by simpa using h2
 obtain⟨hI,hE⟩:=C.obj (k:=fresh) (ho' :=.mrow τ r 1 j) (w':=w') (St':=c.St) (r':=R) (ak hf) (by rw[f];exact h3) hd (Sb.le.refl _) (λ_ _ _ _ x=>x) (λ_ _ x=>.inl x) g (.inl hf)
  (.inr ⟨τ,r,1,_,rfl,.inr (by rw[f];exact T),ds,h2',hrx.mono (Sb.le.refl _) g,hnst⟩)
 refine db (v:=R) (fX ho hcl p hty (by rw[hs,ex];exact hrun)) rfl hI hE (su (l:=j) (e:=r) (τ:=τ) ?_ ?_)
 ·show(c.heap.set fresh _)[fresh]? = _;rw[get_set,β rfl,β (ak hf)]
 ·show rH (if fresh=fresh then R else c.rv fresh) τ.size 0 j.length R;rw[β rfl];exact CY h2'
def Ht {z:Array Value}(p:z.toList=zl τ)(g:0<τ.size):∀n,Rep w St (chain (toD τ) (List.replicate n (zero τ))) (Builtin.zeroCells z n).toList:=by
 have f:z.size=τ.size:=by rw[←Array.length_toList,p];exact(dn (w:=w) (St:=St) τ).size
 have r:∀n,(Builtin.zeroCells z n).toList=(List.replicate n (zl τ)).flatten:=by
  intro n;apply X_;intro j;have U:(Builtin.zeroCells z n).toList.length=n*τ.size:=by rw[ω,size_zeroCells,f]
  have T:((List.replicate n (zl τ)).flatten).length=n*τ.size:=by simp[List.length_flatten,←p,f]
  by_cases l:j<n*τ.size
  ·have R:j%τ.size<τ.size:=Nat.mod_lt _ g;have e1:(Builtin.zeroCells z n).toList[j]? = some z[j%τ.size]!:=by
    simp[Builtin.zeroCells,f];simp[l]
   have:∀n j,j<n*τ.size→((List.replicate n (zl τ)).flatten)[j]? = some z[j%τ.size]!:=by
    intro n;induction n with
    |zero=>intro j l;omega
    |succ n C=>
     intro j l;rw[o?,D_];have J:(zl τ).length=τ.size:=by rw[←p,ω,f]
     by_cases P:j<τ.size
     ·rw[ο Ω,aiw P,←p];have:j<z.size:=Ω
      simp[this,aiI]
     ·rw[Q' Ω,J,C (j-τ.size) (by rw[T_]at l;omega),←Nat.mod_eq_sub_mod Ω]
   rw[e1,this n j l]
  ·rw[u_ Ω,u_ Ω]
 intro n;rw[r n];induction n with
 |zero=>rfl
 |succ n C=>exact⟨zl τ,_,by rw[o?,D_],dn τ,C⟩
def ab3 (C:Inv B w0 J c)(tk:TabOk P tab)(ho:o.op = .makeSlice t x y)(hf:c.heap[fresh]? = some .none){q q':IntKind}{n m:Int}(hx:RA c (.val (.int q) n) [a.eval x])(hy:RA c (.val (.int q') m) [a.eval y])
  (ht:tab.ty t=some (.slice τ)) (he:tab.elem t=some e) (h0:0≤n) (h1:n≤m) (h2:m≤(LIM:Int)) :
  Ok P B w0 J o a c (c.heap.set fresh (.mrow τ e 0 (List.replicate n.toNat (zero τ)))) (.msl fresh 0 0 n.toNat):=by
 obtain⟨i,z,_,_,_,_,_,_,hu⟩:=tk.ty t _ ht;obtain⟨R,u1,u2,u3,hpos⟩:=hu;have:R=e:=by rw[he]at u3;exact(π u3).symm
 subst this;obtain⟨ie,p,t1,t2,t3,t4,t5,_⟩:=tk.ty R τ u2;have hxv:=da hx.val_inv;have hyv:=da hy.val_inv;unfold LIM at h2;have hm0:(m.toNat:Int)=m:=Int.toNat_of_nonneg Ω;have r:(ie.bytes:Int)*m≤281474976710656:=by
  have h3:ie.bytes*m.toNat≤16384*4294967296:=Nat.mul_le_mul t5 Ω;have h4:((ie.bytes*m.toNat:Nat):Int)≤281474976710656:=Ω
  rw[Int.natCast_mul,hm0]at h4;exact h4
 have T:=run_make (P:=P) c.w t R ie p u1 t1 t3 q q' n m h0 h1 r Ω;have hzs:p.cells.size=τ.size:=by rw[←Array.length_toList,t4];exact(dn (w:=c.w) (St:=c.St) τ).size
 have hmade:madeCells p.cells (m.toNat*ie.size)=Builtin.zeroCells p.cells m.toNat:=by unfold madeCells Builtin.zeroCells;rw[t2,←hzs]
 rw[hmade]at T;have htake:(Builtin.zeroCells p.cells m.toNat).toList.take (n.toNat*τ.size)=(Builtin.zeroCells p.cells n.toNat).toList:=by
  have hle:n.toNat*τ.size≤m.toNat*τ.size:=g_ _ Ω;apply X_;intro j;simp[Builtin.zeroCells,hzs];rw[K'];by_cases hj:j<n.toNat*τ.size
  ·have:j<m.toNat*τ.size:=Ω
   simp[hj,this]
  ·simp[hj]
 have hb:Below c.w.heap.size c.w (c.w.alloc (.cells (Builtin.zeroCells p.cells m.toNat) R)):=(Below.refl _ _).alloc (ζ _) _;have hnone:obk c fresh=none:=by unfold obk;rw[hf]
 have U:=Ht (w:=c.w) (St:=c.St) t4 hpos n.toNat;have g:∀(ad:Addr) u,c.St ad.block ad.off→ad.spot=none→c.w.cell? ad=some u→(c.w.alloc (.cells (Builtin.zeroCells p.cells m.toNat) R)).cell? ad=some u:=λad u hst _ hc=>(hb.cell (C.bnd _ _ hst)).trans hc;have f:(List.replicate n.toNat (zero τ)).length=n.toNat:=by simp
 obtain⟨hI,hE⟩:=C.obj (k:=fresh) (ho' :=.mrow τ R 0 (List.replicate n.toNat (zero τ))) (w':=c.w.alloc (.cells (Builtin.zeroCells p.cells m.toNat) R)) (St':=c.St) (r' :=.slice (some ⟨c.w.heap.size,0,none⟩) n.toNat m.toNat) (ak hf)
  (by rw[hnone];exact⟨rfl,rfl,rfl,hb.size,λb hb' _=>hb.block b hb'⟩) (ζ _) (Sb.le.refl _) (λ_ _ _ _ x=>x) (λ_ _ x=>.inl x) g (.inl hf)
  (.inr ⟨τ,R,0,_,rfl,.inr (.inr rfl),_,⟨by rw[bh U],.inr ⟨c.w.heap.size,m.toNat,Builtin.zeroCells p.cells m.toNat,by rw[f],C.size,z_ c.w _,by rw[f];omega,by simp[maxLen];omega,by rw[size_zeroCells,hzs],by rw[f];exact htake⟩⟩,U.mono (Sb.le.refl _) g,λb hb' o x=>by
   simp only[Value.ownBlock,θ]at hb';have:=C.bnd _ _ x;omega⟩)
 refine db (v :=.slice (some ⟨c.w.heap.size,0,none⟩) n.toNat m.toNat) ?_ rfl hI hE (su (τ:=τ) (e:=R) (l:=List.replicate n.toNat (zero τ)) ?_ ?_)
 ·unfold execOp;simp[ho,hxv,hyv,T]
 ·show(c.heap.set fresh _)[fresh]? = _;rw[get_set,β rfl,β (ak hf)]
 ·show rH (if fresh=fresh then _ else c.rv fresh) τ.size 0 n.toNat _;rw[β rfl];exact .inr ⟨c.w.heap.size,n.toNat,m.toNat,some ⟨c.w.heap.size,0,none⟩,rfl,c_ _,ζ _,Ψ,.inl Ψ⟩
def BR (C:Inv B w0 J c)(tk:TabOk P tab){parts:Array (Nat×Operand)}(ho:o.op = .buildSlice t 0 parts)(hp:parts.size=0)
  (ht:tab.ty t=some (.slice τ)) (he:tab.elem t=some e) (T:c.heap[fresh]? = some .none):Ok P B w0 J o a c (c.heap.set fresh (.mrow τ e 0 [])) (.msl fresh 0 0 0):=by
 obtain⟨i,z,_,_,_,_,_,_,hu⟩:=tk.ty t _ ht;obtain⟨p,u1,u2,u3,hpos⟩:=hu;have:p=e:=by rw[he]at u3;exact(π u3).symm
 subst this;have hpe:parts = #[]:=V_ hp;subst hpe;have g:obk c fresh=none:=by unfold obk;rw[T]
 have hb:Below c.w.heap.size c.w (c.w.alloc (.cells #[] p)):=(Below.refl _ _).alloc (ζ _) _;have f:∀(r:Addr) u,c.St r.block r.off→r.spot=none→c.w.cell? r=some u→(c.w.alloc (.cells #[] p)).cell? r=some u:=λr u U _ hc=>(hb.cell (C.bnd _ _ U)).trans hc;have R:Rep c.w c.St (chain (toD τ) []) []:=rfl;obtain⟨hI,hE⟩:=C.obj (k:=fresh) (ho' :=.mrow τ p 0 []) (w':=c.w.alloc (.cells #[] p)) (St':=c.St) (r' :=.slice (some ⟨c.w.heap.size,0,none⟩) 0 0) (ak T)
  (by rw[g];exact⟨rfl,rfl,rfl,hb.size,λb j _=>hb.block b j⟩) (ζ _) (Sb.le.refl _) (λ_ _ _ _ x=>x) (λ_ _ x=>.inl x) f (.inl T)
  (.inr ⟨τ,p,0,_,rfl,.inr (.inr rfl),[],⟨Ψ,.inr ⟨c.w.heap.size,0, #[],rfl,C.size,z_ c.w _,ζ _,by simp[maxLen],Ψ,Ψ⟩⟩,R.mono (Sb.le.refl _) f,λb j o x=>by
   simp only[Value.ownBlock,θ]at j;have:=C.bnd _ _ x;omega⟩)
 refine db (v :=.slice (some ⟨c.w.heap.size,0,none⟩) 0 0) ?_ rfl hI hE (su (τ:=τ) (e:=p) (l:=[]) ?_ ?_)
 ·unfold execOp;have hno:¬(0*τ.size>2^24):=Ω
  have h0:0*τ.size=0:=aiv _;simp only[ho,Instr.buildSlice,ξ,ε u1,Δ,az tk u2,B' hno];rw[β h0,ξ,a_,Δ];simp[newRow,Instr.fill,show Array.range 0 = #[] from rfl]
 ·show(c.heap.set fresh _)[fresh]? = _;rw[get_set,β rfl,β (ak T)]
 ·show rH (if fresh=fresh then _ else c.rv fresh) τ.size 0 0 _;rw[β rfl];exact .inr ⟨c.w.heap.size,0,0,some ⟨c.w.heap.size,0,none⟩,rfl,c_ _,ζ _,Ψ,.inl Ψ⟩
def Hu {w:World}{St:Sb}:∀{l:List Int} {f:List Value},Rep w St (chain (toD (.int .u8)) l) f→f=l.map (λn=>.int .u8 n)
 |[],f,h=>h
 |n::l,f,h=>by obtain⟨c1,c2,rfl,⟨rfl,_⟩,h2⟩:=h;rw[Hu h2];rfl
def F3 (C:Inv B w0 J c)(tk:TabOk P tab){s:TypeId}(ho:o.op = .convert s t x){l:List Int}(hx:RA c u [a.eval x])(hl:one? (.slice (.int .u8)) u=some l)(ht:tab.ty t=some .str)(hs:tab.ty s=some (.slice (.int .u8))) :
  Ok P B w0 J o a c c.heap (.val .str (l.map λn:Int=>UInt8.ofNat n.toNat)):=by
 obtain⟨i,z,_,_,_,_,_,_,hu⟩:=tk.ty t _ ht;have hu:P.underlying t=some .string:=hu;obtain⟨i',z',_,_,_,_,_,_,hus⟩:=tk.ty s _ hs;obtain⟨e,u1,u2,u3,hpos⟩:=hus;obtain⟨_,_,_,_,_,_,_,_,p⟩:=tk.ty e _ u2;have p:P.underlying e=some (.int .u8):=p;obtain⟨A,cp,ev,hcap,hds⟩:=dw ((repv_cell (t :=.slice (.int .u8)) rfl).1 (one?_sound hl hx));simp at ev;refine ao C (v :=.string ⟨(l.map λn:Int=>UInt8.ofNat n.toNat).toArray⟩) ?_ (zQ _);have f:(Conv.bytesToString (a.eval x)).run P c.w = .ok (.string ⟨(l.map λn:Int=>UInt8.ofNat n.toNat).toArray⟩) c.w:=by
  rw[ev];cases A with
  |none=>
   have hl0:l=[]:=by
    obtain h0|⟨ad,ds,h0,_⟩:=hds
    ·exact U' h0
    ·cases h0
   subst hl0;simp[Conv.bytesToString];rfl
  |some ad=>
   have R:(loadCells ad l.length).run P c.w = .ok (l.map (Value.int .u8)).toArray c.w:=by
    obtain h0|⟨ad',ds,h0,_,hrep,U⟩:=hds
    ·have:l=[]:=U' h0;subst this;simp[loadCells,loadCellsFrom]
    ·cases h0;have hb:=Hu hrep;have:=T? (P:=P) c.w ad ds (λj u hu=>(U j u hu).1);rw[hb]at this;simpa using this
   rw[run_bytesToString (P:=P) c.w ad l.length cp l R];have T:∀(ns:List Int) (g:ByteArray),ns.foldl (λr n=>r.push (UInt8.ofNat n.toNat)) g=⟨g.data++(ns.map λn:Int=>UInt8.ofNat n.toNat).toArray⟩:=by
    intro ns;induction ns with
    |nil=>intro g;simp
    |cons n ns ih=>intro g;simp only[List.foldl_cons,ih,b?];congr 1;simp[ByteArray.push]
   rw[T];congr 3;simp
 unfold execOp;simp[ho,convert,ε u1,ε hu];rw[ev]at f⊢;simp[ε p,f]
end
def oe (g:Bool):AV→Bool×AV
 |.cond c a=>(be g c,a)
 |a=>(true,a)
def oY (g:Bool):List AV→Bool×List AV
 |[]=>(true,[])
 |a::l=>((oe g a).1&&(oY g l).1,(oe g a).2::(oY g l).2)
def gU (op:Op)(g:Bool)(l:List AV):Bool×List AV :=
 match op,l with
 |.pick _ _ _,a::r=>((oe g a).1,(oe g a).2::r)
 |_,l=>oY g l
def yR (env:List AV)(g:List Oper)(j:Nat)(f:Bool):Option Bool :=
 match (g[j]?).bind (·.dst)with
 |some d=>match env.getD d .unk with
  |.val .bool b=>some (match f with|true=>b|false=>!b)
  |.cond c (.val .bool b)=>some (c&&(match f with|true=>b|false=>!b))
  |_=>none
 |none=>none
structure Dl where
 chk:Bool
 out:AV
 dst:Option Nat
 wr:Option (Nat×HO)
def sw (env:List AV)(f:Option Nat)(a:AV):List AV :=
 match f with
 |some d=>env.set d a
 |none=>env
def C8 (f:List HO)(wr:Option (Nat×HO)):List HO :=
 match wr with
 |some (k,ho)=>f.set k ho
 |none=>f
def Dl.app (d:Dl)(σ:Sg):Sg:=⟨sw σ.env d.dst d.out,C8 σ.heap d.wr⟩
def NQ (f:List HO)(k:Option Nat):HO :=
 match k with
 |some k=>f.getD k .none
 |none=>.none
def Sf (f:Tab)(T:Specs)(o:Oper)(fresh:Nat)(g:Option Bool)(U:List AV)(l:HO):Option Dl :=
 match g with
 |none=>match eff f T o true U fresh l with
  |some (c,out,j)=>some ⟨c,out,o.dst,if cT T o.op then none else match bu T o.op U fresh with|some k=>some (k,j)|none=>none⟩
  |none=>none
 |some g=>if cT T o.op then match eff f T o g (gU o.op g U).2 fresh l with
   |some (c,out,_)=>some ⟨(gU o.op g U).1&&be g c,.cond g out,o.dst,none⟩
   |none=>none
  else match afT f o (gU o.op g U).2 with
   |some out=>some ⟨(gU o.op g U).1,.cond g out,o.dst,none⟩
   |none=>none
def gOf (env:List AV)(f:List Oper)(o:Oper):Option (Option Bool) :=
 match o.guard with
 |none=>some none
 |some (j,want)=>match yR env f j want with
  |some g=>some (some g)
  |none=>none
def cH (env:List AV)(o:Oper):List AV:=o.op.operands.toList.map (Ql env)
def lE (T:Specs)(o:Oper)(fresh:Nat)(g:Option Bool)(U:List AV):Option Nat :=
 match g with
 |none=>bu T o.op U fresh
 |some g=>bu T o.op (gU o.op g U).2 fresh
def vL (j:Tab)(T:Specs)(l:List Oper)(fresh:Nat)(o:Oper)(f:Sg):Option Dl :=
 match gOf f.env l o with
 |some g=>Sf j T o fresh g (cH f.env o) (NQ f.heap (lE T o fresh g (cH f.env o)))
 |none=>none
def AV.noCond:AV→Bool
 |.fn _ c=>c.noCond
 |.agg p=>p.noCond
 |.tup p=>p.noCond
 |.pcons a b=>a.noCond&&b.noCond
 |.cond _ _=>false
 |_=>true
def clr:AV→AV
 |.cond _ _=>.unk
 |a=>a
inductive Tgt where
 |fn (f:FuncId)|yld (j:Nat)
abbrev Yk:=Nat→List AV→List HO→(AV→List HO→Option AV)→Option AV
abbrev Ck:=Tgt→List AV→List HO→(AV→List HO→Option AV)→Option AV
structure Callk where
 call:Ck
 iter:Yk→Ck
def cL (o:Oper)(env:List AV):Option (Tgt×List AV) :=
 match o.op,o.guard with
 |.call cl,none=>match cl.callee,cH env o with
  |.value _,.fn f caps::args=>if env.all AV.noCond then some (.fn f,args++caps.parts)else none
  |.value _,.yld j::args=>if env.all AV.noCond then some (.yld j,args)else none
  |_,_=>none
 |_,_=>none
def Nq (g:Tab)(o:Oper)(j:Sg)(fresh:Nat):Option (Bool×AV×List HO) :=
 match o.op,o.guard with
 |.call cl,none=>match cl.callee with
  |.builtin .append=>match cH j.env o,cl.argTypes.toList with
   |[s,.msl k v lo C],[t1,p]=>if t1=p then match g.elem t1,g.ty t1,j.heap[k]? with
     |some e,some (.slice f),some (.mrow τ' _ v' l)=>if v'=v then match cast? (.slice τ') (.slice f) l with
       |some l=>match s with
        |.own R P p r=>match j.heap[R]? with
         |some (.row t3 e3 v3)=>if t3=p then if e3=e then if v3=P then match cast? (.slice p) (.slice f) r with
           |some r=>some (decide (r.length+((l.take C).drop lo).length≤LIM),.own R (P+1) f (r++(l.take C).drop lo),j.heap.set R (.row f e (P+1)))
           |none=>none
          else none else none else none
         |_=>none
        |.nil=>match j.heap[fresh]? with
         |some .none=>some (decide (((l.take C).drop lo).length≤LIM),.own fresh 1 f ((l.take C).drop lo),j.heap.set fresh (.row f e 1))
         |_=>none
        |_=>none
       |none=>none
      else none
     |_,_,_=>none
    else none
   |_,_=>none
  |.builtin .copy=>match cH j.env o,cl.argTypes.toList with
   |[.msl k v lo C,x],[t1,p]=>if t1=p then match g.elem t1,wv (g.ty t1) x,j.heap[k]? with
     |some e,some ⟨f,J⟩,some (.mrow τ' e' v' l)=>if v'=v then if e'=e then match cast? (.slice τ') (.slice f) l with
       |some l=>some (true,.val (.int .i64) ((Nat.min J.length (C-lo):Nat):Int),j.heap.set k (.mrow f e v (l.take lo++J.take (Nat.min J.length (C-lo))++l.drop (lo+Nat.min J.length (C-lo)))))
       |none=>none
      else none else none
     |_,_,_=>none
    else none
   |_,_=>none
  |.builtin .clear=>match cH j.env o with
   |[.msl k v lo C]=>match (cl.argTypes[0]?).bind g.elem,(cl.argTypes[0]?).bind g.ty,j.heap[k]? with
    |some e,some (.slice f),some (.mrow τ' e' v' l)=>if v'=v then if e'=e then match cast? (.slice τ') (.slice f) l with
      |some l=>some (true,.tup .pnil,j.heap.set k (.mrow f e v (l.take lo++List.replicate (C-lo) (zero f)++l.drop C)))
      |none=>none
     else none else none
    |_,_,_=>none
   |_=>none
  |_=>none
 |_,_=>none
def aF (l:Tab)(T:Specs)(ck:Callk)(C:List Oper)(g:Nat):Nat→List Oper→Sg→(Sg→Option AV)→Option AV
 |_,[],p,k=>k p
 |i,o::r,p,k=>
  match vL l T C (g+i) o p with
  |some d=>bif d.chk then aF l T ck C g (i+1) r (d.app p) k else none
  |none=>match Nq l o p (g+i)with
   |some (b,out,j)=>bif b then aF l T ck C g (i+1) r ⟨sw p.env o.dst out,j⟩ k else none
   |none=>match cL o p.env with
    |some (f,args)=>ck.call f args p.heap (λres j=>aF l T ck C g (i+1) r ⟨sw p.env o.dst res,j⟩ k)
    |none=>none
def CP (l:Tab)(T:Specs)(j:List Oper)(f:Nat):Nat→List Oper→Sg→Option (List Dl×List (Option Nat))
 |_,[],_=>some ([],[])
 |i,o::r,σ=>
  match vL l T j (f+i) o σ with
  |some d=>match CP l T j f (i+1) r (d.app σ)with
   |some (ds,ts)=>some (d::ds,(match gOf σ.env j o with|some g=>lE T o (f+i) g (cH σ.env o)|none=>none)::ts)
   |none=>none
  |none=>match r with
   |[]=>some ([],[])
   |_=>none
def aJ:List Oper→List Nat→List Nat
 |[],acc=>acc
 |o::r,acc=>aJ r (acc++[o.after.toList.foldl (λs e=>if Region.binds .any e then s ||| 2^e.on ||| acc.getD e.on 0 else s) 0])
def b0:Nat→List Oper→Bool
 |_,[]=>true
 |i,o::r=>o.after.toList.all (λe=>!Region.binds .any e||decide (e.on<i))&&b0 (i+1) r
def eA (f:List Oper)(o:Oper):List Nat :=
 (o.op.operands.toList.filterMap λ|.tmp t=>some t|_=>none)++(match o.guard with|some (j,_)=>((f[j]?).bind (·.dst)).toList|none=>[])
def HT (x y:Option Nat):Bool :=
 match x,y with
 |some a,some b=>a == b
 |_,_=>false
def apart (T:Specs)(f:List Oper)(j g:Oper)(p l:Option Nat):Bool :=
 !HT j.dst g.dst&&(match j.dst with|some d=>!(eA f g).contains d|none=>true)&&(match g.dst with|some d=>!(eA f j).contains d|none=>true) &&
 (!HT p l||(cT T j.op&&cT T g.op))
def fE (T:Specs)(f:List Oper)(r:List Nat)(g:List (Option Nat))(i j:Nat):Bool :=
 (r.getD j 0).testBit i||(match f[i]?,f[j]? with
  |some p,some l=>apart T f p l (g.getD i none) (g.getD j none)
  |_,_=>false)
def KN (T:Specs)(f:List Oper)(g:List (Option Nat))(l:List Nat):Bool :=
 b0 0 f&&(List.range f.length).all (λj=>(List.range j).all λi=>
  if j<g.length then fE T f l g i j else(l.getD j 0).testBit i)
def afq (k:Sg→Option AV):Sg→Option AV:=λf=>k ⟨f.env.map clr,f.heap⟩
def um (j:Tab)(T:Specs)(ck:Callk)(f:List Oper)(l:Bool)(g:Sg)(k:Sg→Option AV):Option AV :=
 match l with
 |false=>aF j T ck f g.heap.length 0 f ⟨g.env,g.heap++List.replicate f.length .none⟩ (afq k)
 |true=>match CP j T f g.heap.length 0 f ⟨g.env,g.heap++List.replicate f.length .none⟩with
  |some (_,ts)=>if KN T f ts (aJ f [])then aF j T ck f g.heap.length 0 f ⟨g.env,g.heap++List.replicate f.length .none⟩ (afq k)else none
  |none=>none
inductive MK where
 |dat (t:Ty)|own (t:Ty) (e:TypeId)|mut (t:Ty) (e:TypeId)|keep|drop
structure MS where
 h0:Nat
 pre:List (Nat×List MK)
 env:List (Nat×MK)
def AV.under (n:Nat):AV→Bool
 |.box k _=>decide (k<n)
 |.own k _ _ _=>decide (k<n)
 |.msl k _ _ _=>decide (k<n)
 |.mpt k _ _ _=>decide (k<n)
 |.yld k=>decide (k<n)
 |.fn _ c=>c.under n
 |.agg p=>p.under n
 |.tup p=>p.under n
 |.pcons a b=>a.under n&&b.under n
 |.cond _ a=>a.under n
 |_=>true
inductive LE where
 |own (t:Ty) (e:TypeId)
 |mut (t:Ty) (e:TypeId) (ko:Option (Nat×Nat)) (l:List t.den)
 |frz (t:Ty) (e:TypeId) (ko:Option (Nat×Nat)) (l:List t.den)
def LE.ho:LE→HO
 |.own t e=>.row t e 0
 |.mut t e _ l=>.mrow t e 0 l
 |.frz _ _ _ _=>.dead
def acE (k v:Nat):Option (Nat×Nat)→Bool
 |some (k',v')=>Nat.beq k k'&&Nat.beq v v'
 |none=>false
def yU (t:Ty)(k v:Nat):Nat→List LE→Option Nat
 |_,[]=>none
 |i,.mut t' _ ko _::r=>if acE k v ko&&decide (t'=t)then some i else yU t k v (i+1) r
 |i,_::r=>yU t k v (i+1) r
def yV (t:Ty)(k v:Nat):List LE→Option (List t.den)
 |[]=>none
 |.frz t' _ ko l::r=>if acE k v ko then match cast? (.slice t') (.slice t) l with|some l=>some l|none=>none else yV t k v r
 |_::r=>yV t k v r
def conv (f:Nat):MK→AV→List HO→List LE→Option (AV×List HO×List LE)
 |.dat t,.msl k v j C,H,L=>match t with
  |.slice g=>match yV g k v L with
   |some l=>some (.val (.slice g) ((l.take C).drop j),H,L)
   |none=>match H[k]? with
    |some (.mrow τ' e v' l)=>if v'=v then match cast? (.slice τ') (.slice g) l with
      |some l=>some (.val (.slice g) ((l.take C).drop j),H.set k .dead,L++[.frz g e (some (k,v)) l])
      |none=>none
     else none
    |_=>none
  |_=>none
 |.dat t,a,H,L=>match dat? t a with
  |some x=>some (.val t x,H,L)
  |none=>none
 |.own t e,.own k v p l,H,L=>match H[k]? with
  |some (.row t2 e2 v2)=>if t2=p then if e2=e then if v2=v then match cast? (.slice p) (.slice t) l with
    |some l=>some (.own (f+L.length) 0 t l,H.set k (.row t2 e2 (v2+1)),L++[.own t e])
    |none=>none
   else none else none else none
  |_=>none
 |.own t e,.nil,H,L=>some (.own (f+L.length) 0 t [],H,L++[.own t e])
 |.mut t e,.msl k v j C,H,L=>match yU t k v 0 L with
  |some i=>some (.msl (f+i) 0 j C,H,L)
  |none=>match H[k]? with
   |some (.mrow t2 e2 v2 l)=>if e2=e then if v2=v then match cast? (.slice t2) (.slice t) l with
     |some l=>some (.msl (f+L.length) 0 j C,H.set k .dead,L++[.mut t e (some (k,v)) l])
     |none=>none
    else none else none
   |_=>none
 |.mut t e,.nil,H,L=>some (.msl (f+L.length) 0 0 0,H,L++[.mut t e none []])
 |.keep,a,H,L=>if a.under f then some (a,H,L)else none
 |.drop,_,H,L=>some (.unk,H,L)
 |_,_,_,_=>none
def TE (f:Nat):List MK→List AV→List HO→List LE→Option (List AV×List HO×List LE)
 |[],[],H,L=>some ([],H,L)
 |m::ms,a::as,H,L=>match conv f m a H L with
  |some (g,H,L)=>match TE f ms as H L with
   |some (as',H,L)=>some (g::as',H,L)
   |none=>none
  |none=>none
 |_,_,_,_=>none
def Cq (f:Nat)(env:List AV):List (Nat×MK)→List AV→List HO→List LE→Option (List AV×List HO×List LE)
 |[],acc,H,L=>some (acc,H,L)
 |(s,m)::r,acc,H,L=>match conv f m (env.getD s .unk) H L with
  |some (a,H,L)=>Cq f env r (acc.set s a) H L
  |none=>none
def Cp (f:Nat):List (Nat×List MK)→List HO→List LE→Option (List (Nat×List AV)×List HO×List LE)
 |[],H,L=>some ([],H,L)
 |(k,ms)::r,H,L=>match H[k]? with
  |some (.box cells)=>match TE f ms cells H L with
   |some (cells',H,L)=>match Cp f r H L with
    |some (b,H,L)=>some ((k,cells')::b,H,L)
    |none=>none
   |none=>none
  |_=>none
def HO.under (n:Nat):HO→Bool
 |.box cells=>cells.all (AV.under n)
 |_=>true
def eT:List (Nat×List AV)→List HO→List HO
 |[],H=>H
 |(k,cells)::r,H=>eT r (H.set k (.box cells))
def yb (g:Nat)(f:List Nat):Nat→List HO→Bool
 |_,[]=>true
 |i,ho::r=>(f.contains i||ho.under g)&&yb g f (i+1) r
def Eb:List Nat→Bool
 |[]=>true
 |a::l=>!l.contains a&&Eb l
def acx (g:Nat)(m:MS)(f:Sg):Option Sg :=
 if decide (g≤m.h0)&&decide (m.h0≤f.heap.length)&&Eb (m.pre.map (·.1))&&m.pre.all (λp=>decide (p.1<m.h0))&&yb m.h0 (m.pre.map (·.1)) 0 (f.heap.take m.h0)then
  match Cp m.h0 m.pre f.heap []with
  |some (j,H,L)=>match Cq m.h0 f.env m.env (List.replicate f.env.length .unk) H L with
   |some (env,H,L)=>some ⟨env,eT j (H.take m.h0)++L.map LE.ho⟩
   |none=>none
  |none=>none
 else none
inductive Ex where
 |normal|exit (id:Nat)|ret
abbrev KT:=Ex→Sg→Option AV
structure Par where
 tab:Tab
 T:Specs
 joins:Nat→Nat→Option MS
 loops:Nat→Nat→Option MS
def rh:Code→Option Nat
 |.region id _ _=>some id
 |.seq a b=>match rh a with|some i=>some i|none=>rh b
 |.cond _ a b=>match rh a with|some i=>some i|none=>rh b
 |.block _ c=>rh c
 |.loop c=>rh c
 |.scope c=>rh c
 |_=>none
def Eo (j:Nat)(m:Option MS)(g:Sg)(k:Sg→Option AV):Option AV :=
 match m with
 |none=>k g
 |some m=>match acx j m g with
  |some f=>k f
  |none=>none
def bc (j:Nat)(m:Option MS)(l:Sg→KT→Option AV)(k:KT):KT:=λe g=>
 match e with
 |.normal=>Eo j m g λf=>l f k
 |e=>k e g
def am (id:Nat)(k:KT):KT:=λe g=>
 match e with
 |.exit f=>match Nat.beq f id with
  |true=>k .normal g
  |false=>k (.exit f) g
 |e=>k e g
def S6 (j:Nat)(m:MS)(f:Sg→Option AV)(k:KT):KT:=λe g=>
 match e with
 |.normal=>Eo j (some m) g f
 |e=>k e g
def aW (g:Nat)(m:MS)(f:Sg→KT→Option AV)(k:KT):Nat→Sg→Option AV
 |0,_=>none
 |n+1,σ=>f σ (S6 g m (aW g m f k n) k)
def afr (f:Sg→Option AV)(k:KT):KT:=λe g=>
 match e with
 |.normal=>f g
 |e=>k e g
def pE (f:Sg→KT→Option AV)(k:KT):Nat→Sg→Option AV
 |0,_=>none
 |n+1,σ=>f σ (afr (pE f k n) k)
def cj:Code→Bool
 |.region _ f _=>f.toList.all λo=>match o.op with|.defer _=>false|_=>true
 |.seq a b=>cj a&&cj b
 |.cond _ a b=>cj a&&cj b
 |.block _ a=>cj a
 |.loop a=>cj a
 |.scope a=>cj a
 |.rangeFunc _ _ a b=>cj a&&cj b
 |_=>true
def xK:List Nat→List AV→List AV→Option (List AV)
 |[],[],env=>some env
 |t::ts,a::as,env=>xK ts as (env.set t a)
 |_,_,_=>none
def afp (g:AV→List HO→Option AV):KT:=λe f=>
 match e with
 |.normal=>g (.val .bool true) f.heap
 |_=>none
def De (j:Nat)(call:Ck)(env:List AV)(ps:List Nat)(l:Nat→Sg→KT→Option AV):Yk:=λr args f p=>
 match Nat.beq r j with
 |true=>match xK ps args env with
  |some g=>l f.length ⟨g,f⟩ (afp p)
  |none=>none
 |false=>call (.yld r) args f p
def exec (ck:Callk)(S:Par):Nat→Nat→Code→Sg→KT→Option AV
 |_,_,.skip,g,k=>k .normal g
 |_,_,.label _,g,k=>k .normal g
 |_,_,.region _ p l,g,k=>um S.tab S.T ck p.toList l g (k .normal)
 |j,f,.seq a b,g,k=>exec ck S j f a g (bc j ((rh b).bind (S.joins j)) (λg k=>exec ck S j f b g k) k)
 |j,f,.cond c a b,g,k=>match Ql g.env c with
  |.val .bool x=>bif x then exec ck S j f a g k else exec ck S j f b g k
  |_=>none
 |j,f,.block id c,g,k=>exec ck S j f c g (am id k)
 |j,f,.loop c,g,k=>match (rh c).bind (S.loops j)with
  |some m=>Eo j (some m) g (aW j m (λg k=>exec ck S j f c g k) k f)
  |none=>pE (λg k=>exec ck S j f c g k) k f g
 |_,_,.exit id,g,k=>k (.exit id) g
 |_,_,.ret,g,k=>k .ret g
 |_,_,_,_,_=>none
def xO (j:Tab)(l:Sg):ResultVar→Option AV
 |.tmp t=>match l.env.getD t .unk with
  |.cond _ _=>none
  |a=>some a
 |.cell t p=>match l.env.getD t .unk with
  |.box k f=>match l.heap.getD k .none,j.ty p with
   |.box cells,some g=>match asm g ((cells.drop f).take g.size)with
    |some x=>some (.val g x)
    |none=>if g.isStruct&&abR (j.one p) ((cells.drop f).take g.size)then some (.agg (dF ((cells.drop f).take g.size)))else none
   |_,_=>none
  |_=>none
def dv (f:Tab)(g:Sg):List ResultVar→Option (List AV)
 |[]=>some []
 |r::l=>match xO f g r,dv f g l with
  |some a,some j=>some (a::j)
  |_,_=>none
def jA:List AV→AV
 |[a]=>a
 |l=>.tup (dF l)
def aht (f:Tab)(j:List ResultVar)(k:AV→List HO→Option AV):KT:=λe g=>
 match e with
 |.exit _=>none
 |_=>match dv f g j with
  |some l=>k (jA l) g.heap
  |none=>none
def DR (f:List HO)(t:Ty)(a:AV):Option t.den :=
 match a with
 |.msl k v j C=>match t with
  |.slice g=>match f[k]? with
   |some (.mrow τ' _ v' l)=>if v'=v then match cast? (.slice τ') (.slice g) l with
     |some l=>some ((l.take C).drop j)
     |none=>none
    else none
   |_=>none
  |_=>none
 |a=>one? t a
def Wz (f:List HO):(t:Ty)→List AV→Option t.den
 |.unit,[]=>some ()
 |.cons a b,l=>match Wz f a (l.take a.size),Wz f b (l.drop a.size)with|some x,some y=>some (x,y)|_,_=>none
 |.tree,[a,b,c,d]=>match DR f (.int .i64) a,DR f .str b,DR f (.slice .str) c,DR f (.slice .tree) d with
  |some k,some t,some g,some j=>some (Tree.mk k t g j)
  |_,_,_,_=>none
 |.int k,[a]=>DR f (.int k) a
 |.bool,[a]=>DR f .bool a
 |.str,[a]=>DR f .str a
 |.slice t,[a]=>DR f (.slice t) a
 |_,_=>none
def adb (f:List HO)(t:Ty)(a:AV):Option t.den :=
 match a with
 |.agg p=>if t.isStruct then Wz f t p.parts else none
 |a=>DR f t a
def ZX (f:List HO):List Ty→List AV→Option (List AV)
 |[],[]=>some []
 |t::ts,a::l=>match adb f t a,ZX f ts l with
  |some x,some r=>some (.val t x::r)
  |_,_=>none
 |_,_=>none
def bw (g:Tab)(p:List ResultVar)(f:List Ty):KT:=λe j=>
 match e with
 |.exit _=>none
 |_=>match dv g j p with
  |some l=>match ZX j.heap f l with
   |some l=>some (jA l)
   |none=>none
  |none=>none
structure Fi where
 S:Par
 ntmps:Nat
 results:List ResultVar
 code:Code
abbrev Hs:=FuncId→List AV→List HO→Option (Bool×AV×List HO)
def hs0:Hs:=λ_ _ _=>none
def BU (call:Yk→Ck)(f:Yk):Callk:=⟨call f,call⟩
def sM (C:FuncId→Option Fi)(r:Hs)(l:Nat):Nat→Yk→Ck
 |_,p,.yld j,args,g,k=>p j args g k
 |0,_,.fn _,_,_,_=>none
 |d+1,p,.fn f,args,g,k=>match r f args g with
  |some (b,out,heap')=>bif b then k out heap' else none
  |none=>match C f with
   |some x=>exec (BU (sM C r l d) p) x.S g.length l x.code ⟨args++List.replicate (x.ntmps-args.length) .unk,g⟩ (aht x.S.tab x.results k)
   |none=>none
def noY:Yk:=λ_ _ _ _=>none
abbrev bN (j:FuncId→Option Fi)(g:Hs)(f d:Nat):Callk:=BU (sM j g f d) noY
def mkE (n:Nat)(l:List (Nat×AV)):List AV:=l.foldl (λe p=>e.set p.1 p.2) (List.replicate n .unk)
def mkH (n:Nat)(l:List (Nat×HO)):List HO:=l.foldl (λe p=>e.set p.1 p.2) (List.replicate n .none)
def sub:Code→List Nat→Code
 |.seq a _,0::r=>sub a r
 |.seq _ b,1::r=>sub b r
 |.cond _ a _,0::r=>sub a r
 |.cond _ _ b,1::r=>sub b r
 |.block _ c,0::r=>sub c r
 |.loop c,0::r=>sub c r
 |.rangeFunc _ _ _ c,0::r=>sub c r
 |.rangeFunc _ _ c _,1::r=>sub c r
 |c,_=>c
abbrev w64 (n:Int):Int:=IntKind.i64.wrap n
abbrev ix (t:Ty)(l:List t.den)(i:Int):t.den:=l.getD i.toNat (zero t)
abbrev ixs (l:Str)(i:Int):Int:=((l.getD i.toNat 0).toNat:Int)
def sf (l:FuncId→Option Fi)(j:Hs)(d:Nat)(x:Fi)(g:List Ty)(f:Nat)(args:List AV):Option AV :=
 match args.all AV.nojk with
 |true=>exec (bN l j f d) x.S 0 f x.code ⟨args++List.replicate (x.ntmps-args.length) .unk,[]⟩ (bw x.S.tab x.results g)
 |false=>none
def RepVs (w:World)(St:Sb):List ((t:Ty)×t.den)→List Value→Prop
 |[],[]=>True
 |d::l,v::vs=>RepV w St d.1 d.2 v∧RepVs w St l vs
 |_,_=>False
def FN:List AV→List ((t:Ty)×t.den)→Prop
 |[],[]=>True
 |a::l,d::r=>dat? d.1 a=some d.2∧FN l r
 |_,_=>False
def bE (P:Program)(f:FuncId):Prop:=∃fn,P.funcs[f]? = some fn∧fn.body.isSome=true∧(fn.name == "runtime.NumGoroutine")=false
def aZ (w:World)(St:Sb):Gh:=⟨[],St,λ_=>0,λ_=>undef,w,λ_=>0⟩
def RW (w:World)(St:Sb)(res:AV):Ending→World→Prop:=λe f=>
 ∃v St',e = .returned v∧Below w.heap.size w f∧dz w≤dz f∧St.le St'∧(∀b o,St' b o→St b o∨(w.heap.size≤b∧b<f.heap.size))∧(∀b e cap n,St'.j b e cap n→St.j b e cap n∨NJ w.heap.size f St' b e cap n)∧RA (aZ f St') res [v]
def MeetsD (P:Program)(f:FuncId)(j:List ((t:Ty)×t.den))(res:AV):Prop :=
 bE P f∧∀w St,(∀b o,St b o→b<w.heap.size)→∀g,RepVs w St j g→Calls P f g.toArray w (RW w St res)
def FL (P:Program)(f:FuncId)(args:List AV)(res:AV):Prop :=
 ∃R:World→Sb→List Value→Prop,(∀c g,RAs c args g→R c.w c.St g)∧bE P f∧∀w St,(∀b o,St b o→b<w.heap.size)→∀g,R w St g→Calls P f g.toArray w (RW w St res)
def T3 (P:Program)(f:FuncId)(cells au:List AV)(res:AV):Prop :=
 bE P f∧∀(c:Gh) (g:Nat) (j:Array Value) (t:TypeId) (p:List Value),c.w.heap[g]? = some (.cells j t (0,0))→RAs c cells j.toList→(∀b o,c.St b o→b<c.w.heap.size)→RAs c au p →
  Calls P f (.pointer (some ⟨g,0,none⟩)::p).toArray c.w λe l=>∃v,e = .returned v∧Below c.w.heap.size c.w l∧dz c.w≤dz l∧∀r,RA r res [v]
def T2 (P:Program)(f:FuncId)(cells au g:List AV)(res:AV):Prop :=
 bE P f∧∀(B:Bd) (l:World) (J:Sb) (c:Gh),Inv B l J c→∀(k:Nat),c.heap[k]? = some (.box cells)→∀p,RAs c (.box k 0::au) p →
  Calls P f p.toArray c.w λe r=>∃v j,e = .returned v∧j.heap=c.heap.set k (.box g)∧j.w=r∧Inv B l J j∧Ev c j∧RA j res [v]
def adS (P:Program)(f:FuncId)(t:Ty)(e:TypeId)(l:List t.den)(au:List AV)(R:List t.den):Prop :=
 bE P f∧∀(B:Bd) (j:World) (J:Sb) (c:Gh),Inv B j J c→∀(k v:Nat),c.heap[k]? = some (.row t e v)→∀p,RAs c (.own k v t l::au) p →
  Calls P f p.toArray c.w λT C=>∃r g,T = .returned r∧g.heap=c.heap.set k (.row t e (v+1))∧g.w=C∧Inv B j J g∧Ev c g∧RA g (.own k (v+1) t R) [r]
def ago (P:Program)(f:FuncId)(t:Ty)(e:TypeId)(args:List AV)(C:List t.den):Prop :=
 bE P f∧∀(B:Bd) (j:World) (J:Sb) (c:Gh),Inv B j J c→∀(k v:Nat),c.heap[k]? = some (.row t e v)→∀l,RAs c args l →
  Calls P f l.toArray c.w λR p=>∃r g,R = .returned r∧g.heap=c.heap.set k (.row t e (v+1))∧g.w=p∧Inv B j J g∧Ev c g∧RA g (.own k (v+1) t C) [r]
structure SpecsOk (P:Program)(T:Specs):Prop where
 call:∀f args res,T.call f args=some (true,res)→FL P f args res
 rd:∀f cells au res,T.rd f cells au=some (true,res)→T3 P f cells au res
 bx:∀f cells au cells' res,T.bx f cells au=some (true,cells',res)→T2 P f cells au cells' res
 rb:∀f q,T.rb f=some q→∀l au l',q.F l au=some (true,l')→adS P f q.t q.e l au l'
 nw:∀f q,T.nw f=some q→∀args l',q.F args=some (true,l')→ago P f q.t q.e args l'
section
variable {P:Program}{tab:Tab}{T:Specs}{B:Bd}{w0:World}{J:Sb}{c:Gh}{o:Oper}{a:Act}
def RAs.dat:∀{g:List AV} {f:List Value} {j:List ((t:Ty)×t.den)},FN g j→RAs c g f→RepVs c.w c.St j f
 |[],[],[],_,_=>trivial
 |_::_,_::_,_::_,⟨h,p⟩,⟨r,l⟩=>⟨dat?_sound h r,RAs.dat p l⟩
 |[],[],_::_,h,_=>h.elim
 |_::_,_::_,[],h,_=>h.elim
variable{f:FuncId}{args au us U:List AV}{res:AV}{cl:Call}{x:Operand}{k fresh:Nat}{t:Ty}{e:TypeId}{v:Value}{g:Bool}
def pD {ds:List ((t:Ty)×t.den)}(l:FN args ds)(g:MeetsD P f ds res):FL P f args res :=
 ⟨λw St j=>RepVs w St ds j,λ_ _ h=>h.dat l,g.1,g.2⟩
def Ob {c':Gh}{St:Sb}(f:St.le c'.St):Ev (aZ c'.w St) c' :=
 ⟨f,λ_ _ _ _ h=>h,λk cells h=>by simp[aZ]at h,λk t e v h=>by simp[aZ]at h,λk t e v l h=>by simp[aZ]at h,λk h=>by simp[aZ]at h,λk h=>by simp[aZ]at h⟩
def J0 (C:Inv B w0 J c)(ho:o.op = .call cl)(hcl:cl.callee = .value x)(hx:RA c (.fn f .pnil) [a.eval x])(hargs:RAs c args (cl.args.toList.map a.eval))(hm:FL P f args res) :
  Ok P B w0 J o a c c.heap res:=by
 obtain⟨R,hR,⟨fn,f1,f2,f3⟩,hm⟩:=hm;obtain⟨cs,e,hcs,_⟩:=hx;have hcs:cs=[]:=hcs;subst hcs;simp at e;have hbody:¬fn.body=none:=by cases hb:fn.body <;> simp_all
 have f3:¬fn.name = "runtime.NumGoroutine":=by simpa using f3
 have hrun:(execOp a.eval o).run P c.w = .ok (.enter f (cl.args.toList.map a.eval).toArray) c.w:=by have e2:cl.args.map a.eval=(cl.args.toList.map a.eval).toArray:=m_ Ψ;unfold execOp;simp[ho,resolve,hcl,e,Deferred.ofValue,invoke,callFunc,P_,f1,f3,hbody,e2]
 intro K Q h;unfold Oper.wp;rw[hrun];refine(hm c.w c.St C.bnd _ (hR c _ hargs)).mono ?_;rintro _ w' ⟨v,St',rfl,hb,hdr,hs,hn,hj,hr⟩;obtain⟨hI,hE⟩:=C.grow hb hs hn hdr hj;exact h v { c with w:=w',St:=St' } rfl hI hE (hr.mono (Ob (c':={ c with w:=w',St:=St' }) (Sb.le.refl _)))
def abY (C:Inv B w0 J c)(ho:o.op = .call cl)(hcl:cl.callee = .value x){cells:List AV}(hx:RA c (.fn f .pnil) [a.eval x])(hargs:RAs c (.box k 0::au) (cl.args.toList.map a.eval))(hk:c.heap[k]? = some (.box cells))(hm:T3 P f cells au res) :
  Ok P B w0 J o a c c.heap res:=by
 obtain⟨⟨fn,f1,f2,f3⟩,hm⟩:=hm;obtain⟨cs,e,hcs,_⟩:=hx;have hcs:cs=[]:=hcs;subst hcs;simp at e;have hbody:¬fn.body=none:=by cases hb:fn.body <;> simp_all
 have f3:¬fn.name = "runtime.NumGoroutine":=by simpa using f3
 have hrun:(execOp a.eval o).run P c.w = .ok (.enter f (cl.args.toList.map a.eval).toArray) c.w:=by have e2:cl.args.map a.eval=(cl.args.toList.map a.eval).toArray:=m_ Ψ;unfold execOp;simp[ho,resolve,hcl,e,Deferred.ofValue,invoke,callFunc,P_,f1,f3,hbody,e2]
 intro K Q h;unfold Oper.wp;rw[hrun];obtain⟨arr,t,b1,_,_,b4⟩:=C.box k cells hk;generalize cl.args.toList.map a.eval=vs at hargs;match vs,hargs with
 |v0::vs,⟨hp,hr⟩=>
 obtain⟨_,_,ep⟩:=hp;simp at ep;rw[ep];refine(hm c (c.blk k) arr t vs b1 b4 C.bnd hr).mono ?_;rintro _ w' ⟨v,rfl,hb,hdr,hra⟩;obtain⟨hI,hE⟩:=C.grow (w':=w') (St':=c.St) hb (Sb.le.refl _) (λ_ _ x=>.inl x) hdr (λ_ _ _ _ x=>.inl x);exact h v { c with w:=w' } rfl hI hE (hra _)
def abS (C:Inv B w0 J c)(ho:o.op = .call cl)(hcl:cl.callee = .value x){cells cells' :List AV}(hx:RA c (.fn f .pnil) [a.eval x])(hargs:RAs c (.box k 0::au) (cl.args.toList.map a.eval))(hk:c.heap[k]? = some (.box cells))(hm:T2 P f cells au cells' res) :
  Ok P B w0 J o a c (c.heap.set k (.box cells')) res:=by
 obtain⟨⟨fn,f1,f2,f3⟩,hm⟩:=hm;obtain⟨cs,e,hcs,_⟩:=hx;have hcs:cs=[]:=hcs;subst hcs;simp at e;have hbody:¬fn.body=none:=by cases hb:fn.body <;> simp_all
 have f3:¬fn.name = "runtime.NumGoroutine":=by simpa using f3
 have hrun:(execOp a.eval o).run P c.w = .ok (.enter f (cl.args.toList.map a.eval).toArray) c.w:=by have e2:cl.args.map a.eval=(cl.args.toList.map a.eval).toArray:=m_ Ψ;unfold execOp;simp[ho,resolve,hcl,e,Deferred.ofValue,invoke,callFunc,P_,f1,f3,hbody,e2]
 intro K Q h;unfold Oper.wp;rw[hrun];refine(hm B w0 J c C k hk _ hargs).mono ?_;rintro _ w' ⟨v,c',rfl,hh,rfl,hI,hE,hr⟩;exact h v c' hh hI hE hr
def aeU (C:Inv B w0 J c)(ho:o.op = .call cl)(hcl:cl.callee = .value x){v:Nat}{l l':List t.den}(hx:RA c (.fn f .pnil) [a.eval x])(hargs:RAs c (.own k v t l::au) (cl.args.toList.map a.eval))(hk:c.heap[k]? = some (.row t e v))(hm:adS P f t e l au l') :
  Ok P B w0 J o a c (c.heap.set k (.row t e (v+1))) (.own k (v+1) t l'):=by
 obtain⟨⟨fn,f1,f2,f3⟩,hm⟩:=hm;obtain⟨cs,ee,hcs,_⟩:=hx;have hcs:cs=[]:=hcs;subst hcs;simp at ee;have hbody:¬fn.body=none:=by cases hb:fn.body <;> simp_all
 have f3:¬fn.name = "runtime.NumGoroutine":=by simpa using f3
 have hrun:(execOp a.eval o).run P c.w = .ok (.enter f (cl.args.toList.map a.eval).toArray) c.w:=by have e2:cl.args.map a.eval=(cl.args.toList.map a.eval).toArray:=m_ Ψ;unfold execOp;simp[ho,resolve,hcl,ee,Deferred.ofValue,invoke,callFunc,P_,f1,f3,hbody,e2]
 intro K Q h;unfold Oper.wp;rw[hrun];refine(hm B w0 J c C k v hk _ hargs).mono ?_;rintro _ w' ⟨r,c',rfl,hh,rfl,hI,hE,hr⟩;exact h r c' hh hI hE hr
def Qn (C:Inv B w0 J c)(ho:o.op = .call cl)(hcl:cl.callee = .value x){l':List t.den}(hx:RA c (.fn f .pnil) [a.eval x])(hargs:RAs c (.nil::au) (cl.args.toList.map a.eval))(hf:c.heap[fresh]? = some .none)(hm:adS P f t e [] au l') :
  Ok P B w0 J o a c (c.heap.set fresh (.row t e 1)) (.own fresh 1 t l'):=by
 obtain⟨⟨fn,f1,f2,f3⟩,hm⟩:=hm;obtain⟨cs,ee,hcs,_⟩:=hx;have hcs:cs=[]:=hcs;subst hcs;simp at ee;have hbody:¬fn.body=none:=by cases hb:fn.body <;> simp_all
 have f3:¬fn.name = "runtime.NumGoroutine":=by simpa using f3
 have hrun:(execOp a.eval o).run P c.w = .ok (.enter f (cl.args.toList.map a.eval).toArray) c.w:=by have e2:cl.args.map a.eval=(cl.args.toList.map a.eval).toArray:=m_ Ψ;unfold execOp;simp[ho,resolve,hcl,ee,Deferred.ofValue,invoke,callFunc,P_,f1,f3,hbody,e2]
 intro K Q h;unfold Oper.wp;rw[hrun];obtain⟨hI,hE⟩:=C.addRow (k:=fresh) (n:=0) (t:=t) (e:=e) (s :=.slice none 0 0) (xs:=[]) hf (M_ _ _ _ _) (λb hb=>by simp[Value.ownBlock]at hb) (λk' b hb=>by simp[Value.ownBlock]at hb) (λb hb=>by simp[Value.ownBlock]at hb) (λb hb=>by simp[Value.ownBlock]at hb);have hk:(c.heap.set fresh (.row t e 0))[fresh]? = some (.row t e 0):=by rw[get_set,β rfl,β (ak hf)]
 generalize cl.args.toList.map a.eval=vs at hargs;match vs,hargs with
 |v0::vs,⟨h0,hr⟩=>
 have h0:[v0]=[.slice none 0 0]:=h0;cases h0;refine(hm B w0 J _ hI fresh 0 hk (.slice none 0 0::vs) ⟨⟨_,rfl, ?_,t,e,0,hk,ζ _,λ_=>by simp⟩,hr.mono hE⟩).mono ?_
 ·exact(repv_cell rfl).2 ⟨none,0,0,rfl,rfl,ζ _,.inl rfl⟩
 ·rintro _ w' ⟨r,c',rfl,hh,rfl,hI',hE',hr'⟩;exact h r c' (by rw[hh];simp) hI' (hE.trans hE') hr'
def aeX (C:Inv B w0 J c)(ho:o.op = .call cl)(hcl:cl.callee = .value x){l':List t.den}(hx:RA c (.fn f .pnil) [a.eval x])(hargs:RAs c args (cl.args.toList.map a.eval))(hf:c.heap[fresh]? = some .none)(hm:ago P f t e args l') :
  Ok P B w0 J o a c (c.heap.set fresh (.row t e 1)) (.own fresh 1 t l'):=by
 obtain⟨⟨fn,f1,f2,f3⟩,hm⟩:=hm;obtain⟨cs,ee,hcs,_⟩:=hx;have hcs:cs=[]:=hcs;subst hcs;simp at ee;have hbody:¬fn.body=none:=by cases hb:fn.body <;> simp_all
 have f3:¬fn.name = "runtime.NumGoroutine":=by simpa using f3
 have hrun:(execOp a.eval o).run P c.w = .ok (.enter f (cl.args.toList.map a.eval).toArray) c.w:=by have e2:cl.args.map a.eval=(cl.args.toList.map a.eval).toArray:=m_ Ψ;unfold execOp;simp[ho,resolve,hcl,ee,Deferred.ofValue,invoke,callFunc,P_,f1,f3,hbody,e2]
 intro K Q h;unfold Oper.wp;rw[hrun];obtain⟨hI,hE⟩:=C.addRow (k:=fresh) (n:=0) (t:=t) (e:=e) (s :=.slice none 0 0) (xs:=[]) hf (M_ _ _ _ _) (λb hb=>by simp[Value.ownBlock]at hb) (λk' b hb=>by simp[Value.ownBlock]at hb) (λb hb=>by simp[Value.ownBlock]at hb) (λb hb=>by simp[Value.ownBlock]at hb);have hk:(c.heap.set fresh (.row t e 0))[fresh]? = some (.row t e 0):=by rw[get_set,β rfl,β (ak hf)]
 refine(hm B w0 J _ hI fresh 0 hk _ (hargs.mono hE)).mono ?_;rintro _ w' ⟨r,c',rfl,hh,rfl,hI',hE',hr'⟩;exact h r c' (by rw[hh];simp) hI' (hE.trans hE') hr'
def adT (h:RAs c us []):us=[]:=by cases us with|nil=>rfl|cons _ _=>exact h.elim
def cP (h:RAs c us [v]):∃u,us=[u]∧RA c u [v]:=by
 match us,h with
 |[u],⟨r,_⟩=>exact⟨u,rfl,r⟩
 |_::_::_,⟨_,h⟩=>exact h.elim
def tQ {vs:List Value}(h:RAs c us (v::vs)):∃u r,us=u::r∧RA c u [v]∧RAs c r vs:=by
 match us,h with
 |u::r,⟨g,f⟩=>exact⟨u,r,rfl,g,f⟩
def eD {v' :Value}(h:RAs c us [v,v']):∃u f,us=[u,f]∧RA c u [v]∧RA c f [v']:=by obtain⟨u,r,rfl,l,j⟩:=tQ h;obtain⟨f,rfl,g⟩:=cP j;exact⟨u,f,rfl,l,g⟩
def WI {v' v'' :Value}(h:RAs c us [v,v',v'']):∃u g f,us=[u,g,f]∧RA c u [v]∧RA c g [v']∧RA c f [v'']:=by obtain⟨u,r,rfl,C,p⟩:=tQ h;obtain⟨g,f,rfl,l,j⟩:=eD p;exact⟨u,g,f,rfl,C,l,j⟩
def fK {f:Type}{l:List f}{x:f}(h:l[k]? = some x):l.set k x=l:=by
 apply X_;intro i;rw[get_set];split
 next e=>subst e;rw[β (ak h),h]
 ·rfl
def aw (T:Specs)(op:Op)(U:List AV)(fresh:Nat)(f:List HO)(g:HO):List HO :=
 match bu T op U fresh with
 |some k=>f.set k g
 |none=>f
def nG {u:AV}{n:Int}(h:EC u=some n)(r:RA c u [v]):∃k,v = .int k n:=by
 cases u with
 |val t x=>
  cases t with
  |int k =>cases h;exact⟨k,da r.val_inv⟩
  |_=>simp[EC]at h
 |_=>simp[EC]at h
def zp {g f:Option Operand}{r:List AV}{P C:Option Int}(h:Ay g f r=some (P,C))(p:RAs c r ((g.toList++f.toList).map a.eval)):GP (g.map a.eval) P∧GP (f.map a.eval) C:=by
 cases g with
 |none=>
  cases f with
  |none =>have:=adT p;subst this;cases h;exact⟨ans,ans⟩
  |some y=>
   obtain⟨u,rfl,j⟩:=cP p;simp[Ay]at h;split at h
   next n l=>cases h;exact⟨ans,nG l j⟩
   ·cases h
 |some x=>
  cases f with
  |none=>
   obtain⟨u,rfl,j⟩:=cP p;simp[Ay]at h;split at h
   next n l=>cases h;exact⟨nG l j,ans⟩
   ·cases h
  |some y=>
   obtain⟨u,T,rfl,j,J⟩:=eD p;simp[Ay]at h;split at h
   next n m l R=>cases h;exact⟨nG l j,nG R J⟩
   ·cases h
def dC {op:Op}{f:List HO}{g:HO}(h:∀k,bu T op U fresh=some k→f[k]? = some g):aw T op U fresh f g=f:=by
 unfold aw;split
 next k hk=>exact fK (h k hk)
 ·rfl
set_option maxHeartbeats 1000000 in
def Rv (tk:TabOk P tab)(ts:SpecsOk P T)(C:Inv B w0 J c)(hg:g=true)(hv:RAs c U (o.op.operands.toList.map a.eval)){ho:HO}
  (hho:∀k,bu T o.op U fresh=some k→c.heap[k]? = some ho) {out:AV} {ho':HO} (j:ZE tab T o g U fresh ho=some (true,out,ho')):Ok P B w0 J o a c (aw T o.op U fresh c.heap ho') out:=by
 unfold ZE at j;cases R:o.op with
 |move x =>simp[R,Op.operands]at j hv;obtain⟨u,rfl,hu⟩:=cP (v:=a.eval x) hv;split at j <;> simp only[θ,χ,reduceCtorEq]at j;rename_i hx;simp at hx;obtain⟨_,rfl,rfl⟩:=j;exact SH C (.inl R) (hx ▸ hu)
 |assign x =>simp[R,Op.operands]at j hv;obtain⟨u,rfl,hu⟩:=cP (v:=a.eval x) hv;split at j <;> simp only[θ,χ,reduceCtorEq]at j;rename_i hx;simp at hx;obtain⟨_,rfl,rfl⟩:=j;exact SH C (.inr R) (hx ▸ hu)
 |pick x y z=>
  simp only[R,Op.operands]at j hv;obtain⟨u,u',u'',rfl,h1,h2,h3⟩:=WI (v:=a.eval x) (v':=a.eval y) (v'':=a.eval z) hv;split at j
  next cb p q hx=>
   simp only[I',I_]at hx;obtain⟨rfl,rfl,rfl⟩:=hx;split at j
   ·rename_i t xx t' yy hp hq;split at j
    ·rename_i yy' hc;obtain⟨e,hyy⟩:=cast?_some hc;subst e;have hyy:yy'=yy:=hyy;subst hyy;simp only[θ,χ,κ]at j;obtain⟨⟨k1,k2⟩,rfl,rfl⟩:=j;refine JV C R h1 (λhb=>?_) (λhb=>?_) hp hq
     ·exact vQ h2 k1 (by simp[hg,hb])
     ·exact vQ h3 k2 (by simp[hg,hb])
    ·cases j
   ·cases j
  ·cases j
 |alloc t=>
  simp only[R]at j hho;have hf:=hho fresh rfl;split at j
  ·split at j
   next τ ht=>simp only[θ,χ]at j;obtain⟨_,rfl,rfl⟩:=j;exact DW C tk R hf ht
   ·split at j
    next n ht=>simp only[θ,χ]at j;obtain⟨_,rfl,rfl⟩:=j;exact J7 C tk R hf ht
    ·cases j
  ·cases j
 |box t x=>
  simp only[R,Op.operands]at j hv hho;have hf:=hho fresh rfl;obtain⟨u,rfl,hu⟩:=cP (v:=a.eval x) hv;split at j
  next hx=>
   simp only[I',I_]at hx;subst hx;split at j
   next hs=>simp only[θ,χ]at j;obtain⟨_,rfl,rfl⟩:=j;exact Qv C R hf hu hs
   ·cases j
  ·cases j
 |load t x=>
  simp only[R,Op.operands]at j hv hho;obtain⟨u,rfl,hu⟩:=cP (v:=a.eval x) hv;split at j
  next k off cells hx=>
   simp only[I',I_]at hx;subst hx;have hk:c.heap[k]? = some (.box cells):=hho k rfl;have hsame:aw T (.load t x) [.box k off] fresh c.heap (.box cells)=c.heap:=by
    show c.heap.set k _=_;exact fK hk
   split at j
   ·rename_i τ ht;split at j
    ·rename_i hst;split at j
     ·rename_i h1;simp only[θ,χ]at j;obtain⟨_,rfl,rfl⟩:=j;rw[hsame];unfold abR at h1;split at h1
      next n hn=>simp only[κ]at h1;exact M7 C tk R hu hk ht hst hn (ν h1.1) h1.2
      ·cases h1
     ·split at j
      next y hy=>simp only[θ,χ]at j;obtain⟨_,rfl,rfl⟩:=j;rw[hsame];exact DT C tk R hu hk ht hy
      ·cases j
    ·rename_i hs;split at j
     next u' hu'=>simp only[θ,χ]at j;obtain⟨_,rfl,rfl⟩:=j;rw[hsame];obtain⟨i,z,_,_,_,_,_,_,hund⟩:=tk.ty t τ ht;obtain⟨d,hd,hn⟩:=CN (by simpa using hs) hund;exact ye C R hu hk hd hn hu'
     ·cases j
   ·rename_i ht;split at j
    ·rename_i hc;split at j
     next u' hu'=>simp only[θ,χ]at j;obtain⟨_,rfl,rfl⟩:=j;rw[hsame];obtain⟨i,z,d,_,_,_,_,hd,hn⟩:=tk.cells t 1 hc;exact ye C R hu hk hd (hn ht rfl) hu'
     ·cases j
    ·cases j
  next τ y hx=>
   simp only[I',I_]at hx;subst hx;split at j
   next ht=>simp only[θ,χ]at j;obtain⟨_,rfl,rfl⟩:=j;exact M6 C tk R hu ht
   ·cases j
  ·cases j
 |store t x y=>
  simp only[R,Op.operands]at j hv hho;obtain⟨u,u',rfl,h1,h2⟩:=eD (v:=a.eval x) (v':=a.eval y) hv;split at j
  next k off v cells hx=>
   simp only[I',I_]at hx;obtain⟨rfl,rfl⟩:=hx;have hk:c.heap[k]? = some (.box cells):=hho k rfl;split at j
   next hs=>simp only[κ,ρ]at hs;simp only[θ,χ]at j;obtain⟨_,rfl,rfl⟩:=j;exact DS C tk R h1 h2 hk hs.1.1 hs.1.2 hs.2
   ·cases j
  ·cases j
 |fieldAddr s x f=>
  simp only[R,Op.operands]at j hv;obtain⟨u,rfl,hu⟩:=cP (v:=a.eval x) hv;split at j
  next k off hx=>
   simp only[I',I_]at hx;subst hx;split at j
   next d hd=>simp only[θ,χ]at j;obtain⟨_,rfl,rfl⟩:=j;exact zX C tk R hu hd
   ·cases j
  next τ y hx=>
   simp only[I',I_]at hx;subst hx;split at j
   ·rename_i ht;split at j
    next τ' y' hp=>simp only[θ,χ]at j;obtain⟨_,rfl,rfl⟩:=j;exact zW C tk R hu ht hp
    ·cases j
   ·cases j
  ·cases j
 |field s x f=>
  simp only[R,Op.operands]at j hv;obtain⟨u,rfl,hu⟩:=cP (v:=a.eval x) hv;split at j
  next τ y hx=>
   simp only[I',I_]at hx;subst hx;split at j
   ·rename_i ht;split at j
    next τ' y' hp=>simp only[θ,χ]at j;obtain⟨_,rfl,rfl⟩:=j;exact Yq C tk R hu ht hp
    ·cases j
   ·cases j
  ·cases j
 |indexAddr t x y=>
  simp only[R,Op.operands]at j hv;obtain⟨u,u',rfl,h1,h2⟩:=eD (v:=a.eval x) (v':=a.eval y) hv;split at j
  next k off q n hx=>
   simp only[I',I_]at hx;obtain⟨rfl,rfl⟩:=hx;split at j
   next m hm=>simp only[θ,χ,κ,ρ]at j;obtain⟨⟨k1,k2⟩,rfl,rfl⟩:=j;rw[dC (by simpa only[R]using hho)];exact JY C tk R h1 h2 hm k1 k2
   ·cases j
  next s k n _ hx=>
   simp only[I',I_]at hx;obtain⟨rfl,rfl⟩:=hx;split at j
   next τ l hl=>simp only[θ,χ,κ,ρ]at j;obtain⟨⟨k1,k2⟩,rfl,rfl⟩:=j;rw[dC (by simpa only[R]using hho)];exact JZ C tk R h1 h2 hl k1 k2
   ·cases j
  ·cases j
 |index t x y=>
  simp only[R,Op.operands]at j hv;obtain⟨u,u',rfl,h1,h2⟩:=eD (v:=a.eval x) (v':=a.eval y) hv;split at j
  next s k n hx=>
   simp only[I',I_]at hx;obtain⟨rfl,rfl⟩:=hx;split at j
   next l hl=>simp only[θ,χ,κ,ρ]at j;obtain⟨⟨k1,k2⟩,rfl,rfl⟩:=j;exact JX C tk R h1 h2 hl k1 k2
   ·cases j
  ·cases j
 |binOp op tx x y ty=>
  simp only[R,Op.operands]at j hv;obtain⟨u,u',rfl,h1,h2⟩:=eD (v:=a.eval x) (v':=a.eval y) hv;simp only at j;split at j
  next cb v hb=>
   simp only[θ,χ]at j;obtain⟨rfl,rfl,rfl⟩:=j;have hb':=hb;unfold oH at hb;split at hb
   ·split at hb
    ·simp only[θ,χ,ρ]at hb;obtain⟨hn,rfl⟩:=hb;exact(M2 C R h1 h2 hn).1 rfl
    ·simp only[θ,χ,ρ]at hb;obtain⟨hn,rfl⟩:=hb;exact(M2 C R h1 h2 hn).2 rfl
    ·split at hb
     next hk=>subst hk;exact Qy C R h1 h2 hb
     ·cases hb
   ·exact Qw C R h1 h2 hb'
   ·exact Na C tk R h1 h2 hb'
   ·exact Qx C tk R h1 h2 hb'
   ·exact F6 C tk R h1 h2 hb'
   ·cases hb
  ·cases j
 |unOp op t x=>
  simp only[R,Op.operands]at j hv;obtain⟨u,rfl,hu⟩:=cP (v:=a.eval x) hv;cases op <;> simp only at j <;> first|(cases j;done)|skip
  all_goals split at j
  all_goals first|(cases j;done)|skip
  all_goals
   rename_i hx;simp only[I',I_]at hx;subst hx;simp only[θ,χ]at j;obtain⟨_,rfl,rfl⟩:=j;first|exact aeW C R hu|exact aeY C R hu
 |convert s t x=>
  simp only[R,Op.operands]at j hv;obtain⟨u,rfl,hu⟩:=cP (v:=a.eval x) hv;split at j
  next k' n k τ hx ht hts=>
   simp only[I',I_]at hx;subst hx;simp only[θ,χ]at j;obtain⟨_,rfl,rfl⟩:=j;obtain⟨i,z,hin,_⟩:=tk.ty s _ hts;refine M9 C tk R hu ht ?_;obtain⟨_,_,_,_,_,_,_,_,hund⟩:=tk.ty s _ hts;cases hs:τ.isStruct with
   |true=>obtain⟨fs,hf,_⟩:=f0 hs hund;exact⟨_,hf⟩
   |false=>obtain⟨d,hd,_⟩:=CN hs hund;exact⟨_,hd⟩
  next x2 hx ht hts=>
   simp only[I',I_]at hx;subst hx;split at j
   next l hl=>simp only[θ,χ]at j;obtain⟨_,rfl,rfl⟩:=j;exact F3 C tk R hu hl ht hts
   ·cases j
  ·cases j
 |build t parts=>
  simp only[R,Op.operands]at j hv;split at j
  next τ ht=>
   split at j
   ·rename_i hs;split at j
    ·rename_i hc;unfold agZ at hc;split at hc
     next n hn=>simp only[κ,ρ,o_,ω]at hc;simp only[θ,χ]at j;obtain⟨_,rfl,rfl⟩:=j;exact F4 C tk R hv ht hn hc.1.1 hc.1.2 hc.2
     ·cases hc
    ·split at j
     next y hy=>simp only[θ,χ]at j;obtain⟨_,rfl,rfl⟩:=j;exact yh C tk R hv ht hs hy
     ·cases j
   ·cases j
  ·split at j
   ·rename_i n hn;split at j
    next hs=>simp only[κ]at hs;simp only[θ,χ]at j;obtain⟨_,rfl,rfl⟩:=j;exact J6 C tk R hv hn (ν hs.1.1) hs.1.2 hs.2
    ·cases j
   ·split at j
    ·rename_i n hn;split at j
     next hs=>simp only[κ]at hs;simp only[θ,χ]at j;obtain⟨_,rfl,rfl⟩:=j;exact J5 C tk R hv hn (ν hs.1.1) hs.1.2 hs.2
     ·cases j
    ·cases j
 |buildSlice t len parts=>
  simp only[R,Op.operands]at j hv hho;have hf:=hho fresh rfl;split at j
  next τ e ht hel=>
   split at j
   ·rename_i hs;simp only[κ,ρ]at hs;split at j
    ·rename_i l hl;split at j
     ·simp only[θ,χ]at j;obtain⟨_,rfl,rfl⟩:=j;exact F5 C tk R hv ht hel hs.1.1 hs.1.2 hs.2 hl hf
     next hz=>simp only[θ,χ]at j;obtain⟨_,rfl,rfl⟩:=j;have h0:len=0:=ν (M?.1 hz).2;exact BR C tk (by rw[R,h0]) (hs.1.1.symm.trans h0) ht hel hf
    ·cases j
   ·cases j
  ·cases j
 |makeSlice t x y=>
  simp only[R,Op.operands]at j hv hho;have hf:=hho fresh rfl;obtain⟨u,u',rfl,h1,h2⟩:=eD (v:=a.eval x) (v':=a.eval y) hv;split at j
  next q n q' m hx=>
   simp only[I',I_]at hx;obtain⟨rfl,rfl⟩:=hx;split at j
   next τ e ht hel=>simp only[θ,χ,κ,ρ]at j;obtain⟨⟨⟨k1,k2⟩,k3⟩,rfl,rfl⟩:=j;exact ab3 C tk R hf h1 h2 ht hel k1 k2 k3
   ·cases j
  ·cases j
 |slice t x low high mx=>
  cases mx with
  |some m=>simp[R]at j
  |none=>
   simp only[R,Op.operands]at j hv;obtain⟨s,r,rfl,h1,h2⟩:=tQ (v:=a.eval x) (vs:=(low.toList++high.toList).map a.eval) (by cases low <;> cases high <;> simpa using hv);simp only at j;split at j
   ·rename_i lo hi' hb;obtain⟨b1,b2⟩:=zp hb h2;split at j
    next τ l hl=>simp only[θ,χ]at j;obtain⟨k1,rfl,rfl⟩:=j;rw[dC (by simpa only[R]using hho)];exact Ym C tk R h1 b1 b2 hl k1
    ·split at j
     next l hl=>simp only[θ,χ]at j;obtain⟨k1,rfl,rfl⟩:=j;rw[dC (by simpa only[R]using hho)];exact JU C tk R h1 b1 b2 hl k1
     ·cases j
   ·cases j
 |extract x i=>
  simp only[R,Op.operands]at j hv;obtain⟨u,rfl,hu⟩:=cP (v:=a.eval x) hv;split at j
  next p hx=>
   simp only[I',I_]at hx;subst hx;split at j
   next u' hp=>simp only[θ,χ]at j;obtain⟨_,rfl,rfl⟩:=j;exact Qt C R hu hp
   ·cases j
  ·cases j
 |makeFunc fn first captured=>
  simp only[R,Op.operands]at j hv;cases fn <;> simp only at j <;> first|(cases j;done)|skip
  split at j
  next hs=>
   simp only[θ,χ]at j;obtain⟨_,rfl,rfl⟩:=j;have hfe:first = #[]:=aki.1 hs
   exact M4 C R hs (by simpa[hfe]using hv)
  ·cases j
 |call cl=>
  simp only[R,Op.operands]at j hv hho;cases hcl:cl.callee with
  |invoke r m=>simp[hcl]at j
  |value x=>
   simp only[hcl]at j;have hv:RAs c U (a.eval x::cl.args.toList.map a.eval):=by simpa[Call.operands,hcl]using hv
   obtain⟨u,r,rfl,h1,h2⟩:=tQ hv;split at j
   ·rename_i hnw;split at j
    ·rename_i f args hx;simp only[I']at hx;obtain⟨rfl,rfl⟩:=hx;split at j
     ·rename_i q hq;split at j
      ·rename_i b l' hF;simp only[θ,χ]at j;obtain⟨rfl,rfl,rfl⟩:=j;have htch:bu T (.call cl) (.fn f .pnil::r) fresh=some fresh:=by simp only[bu,hcl,hnw]
       have hf:=hho fresh htch;have hh:∀y,aw T (.call cl) (.fn f .pnil::r) fresh c.heap y=c.heap.set fresh y:=λy=>by unfold aw;rw[htch]
       rw[hh];exact aeX C R hcl h1 h2 hf (ts.nw f _ hq r l' hF)
      ·cases j
     ·cases j
    ·cases j
   ·rename_i hnw;split at j
    ·rename_i f k off au hx;simp only[I']at hx;obtain⟨rfl,rfl⟩:=hx;split at j
     ·rename_i cells;split at j
      ·rename_i hoff;subst hoff;have hk:c.heap[k]? = some (.box cells):=hho k (by simp[bu,hcl,hnw]);split at j
       ·split at j
        ·rename_i b v hT;simp only[θ,χ]at j;obtain⟨rfl,rfl,rfl⟩:=j;have:aw T (.call cl) (.fn f .pnil :: .box k 0::au) fresh c.heap (.box cells)=c.heap:=by
          simp only[aw,bu,hcl,hnw];exact fK hk
         rw[this];exact abY C R hcl h1 h2 hk (ts.rd f cells au _ hT)
        ·cases j
       ·split at j
        ·rename_i b cells' v hT;simp only[θ,χ]at j;obtain⟨rfl,rfl,rfl⟩:=j;have:aw T (.call cl) (.fn f .pnil :: .box k 0::au) fresh c.heap (.box cells')=c.heap.set k (.box cells'):=by
          simp only[aw,bu,hcl,hnw]
         rw[this];exact abS C R hcl h1 h2 hk (ts.bx f cells au cells' _ hT)
        ·cases j
      ·cases j
     ·cases j
    ·rename_i f k v t l au hx;simp only[I']at hx;obtain⟨rfl,rfl⟩:=hx;split at j
     ·rename_i hwr;split at j
      ·rename_i q t' e' v' hq;split at j
       ·rename_i q1;subst q1;split at j
        ·rename_i q2;subst q2;split at j
         ·rename_i q3;subst q3;split at j
          ·rename_i l2 hc;obtain⟨et,hl2⟩:=cast?_some hc;injection et with et;obtain⟨qt,qe,qF⟩:=q;simp only at et;subst et;have hl2:l2=l:=hl2;subst hl2;split at j
           ·rename_i b l' hF;simp only[θ,χ]at j;obtain⟨rfl,rfl,rfl⟩:=j;have htch:bu T (.call cl) (.fn f .pnil :: .own k v' t' l2::au) fresh=some k:=by simp only[bu,hcl,hnw,hwr]
            have hk:=hho k htch;have hh:∀y,aw T (.call cl) (.fn f .pnil :: .own k v' t' l2::au) fresh c.heap y=c.heap.set k y:=λy=>by unfold aw;rw[htch]
            rw[hh];exact aeU C R hcl h1 h2 hk (ts.rb f _ hq l2 au l' hF)
           ·cases j
          ·cases j
         ·cases j
        ·cases j
       ·cases j
      ·cases j
     ·rename_i hwr;split at j
      ·rename_i b u hT;simp only[θ,χ]at j;obtain⟨rfl,rfl,rfl⟩:=j;have:aw T (.call cl) (.fn f .pnil :: .own k v t l::au) fresh c.heap ho=c.heap:=by
        have ht:bu T (.call cl) (.fn f .pnil :: .own k v t l::au) fresh=none:=by simp only[bu,hcl,hnw,hwr]
        simp only[aw,ht]
       rw[this];exact J0 C R hcl h1 h2 (ts.call f _ _ hT)
      ·cases j
    ·rename_i f au hx;simp only[I']at hx;obtain⟨rfl,rfl⟩:=hx;split at j
     ·rename_i hwr;split at j
      ·rename_i q hq;split at j
       ·rename_i b l' hF;simp only[θ,χ]at j;obtain⟨rfl,rfl,rfl⟩:=j;have htch:bu T (.call cl) (.fn f .pnil :: .nil::au) fresh=some fresh:=by simp only[bu,hcl,hnw,hwr]
        have hf:=hho fresh htch;have hh:∀y,aw T (.call cl) (.fn f .pnil :: .nil::au) fresh c.heap y=c.heap.set fresh y:=λy=>by unfold aw;rw[htch]
        rw[hh];exact Qn C R hcl h1 h2 hf (ts.rb f _ hq [] au l' hF)
       ·cases j
      ·cases j
     ·rename_i hwr;split at j
      ·rename_i b u hT;simp only[θ,χ]at j;obtain⟨rfl,rfl,rfl⟩:=j;have:aw T (.call cl) (.fn f .pnil :: .nil::au) fresh c.heap ho=c.heap:=by
        have ht:bu T (.call cl) (.fn f .pnil :: .nil::au) fresh=none:=by simp only[bu,hcl,hnw,hwr]
        simp only[aw,ht]
       rw[this];exact J0 C R hcl h1 h2 (ts.call f _ _ hT)
      ·cases j
    ·rename_i f args hno hno2 hno3 hx;simp only[I']at hx;obtain⟨rfl,rfl⟩:=hx;split at j
     ·rename_i b v hT;simp only[θ,χ]at j;obtain⟨rfl,rfl,rfl⟩:=j;have hm:=ts.call f r _ hT;have:aw T (.call cl) (.fn f .pnil::r) fresh c.heap ho=c.heap:=by
       have ht:bu T (.call cl) (.fn f .pnil::r) fresh=none:=by
        simp only[bu,hcl,hnw];split
        next k off au hq=>simp only[I']at hq;exact(hno _ _ _ hq.2).elim
        next k v t l au hq=>simp only[I']at hq;exact(hno2 _ _ _ _ _ hq.2).elim
        next au hq=>simp only[I']at hq;exact(hno3 _ hq.2).elim
        ·rfl
       simp only[aw,ht]
      rw[this];exact J0 C R hcl h1 h2 hm
     ·cases j
    ·cases j
  |builtin b=>
   simp only[hcl]at j;have hv:RAs c U (cl.args.toList.map a.eval):=by simpa[Call.operands,hcl]using hv
   cases b <;> simp only at j <;> first|(cases j;done)|skip
   case max=>
    have hh:aw T (.call cl) U fresh c.heap ho=c.heap:=dC hho;split at j
    ·rename_i k x k' y _;split at j
     ·rename_i hkk;subst hkk;simp only[θ,χ,ajF]at j;obtain⟨rfl,rfl⟩:=j;rw[hh];have hal:∃p q,cl.args = #[p,q]:=by
       have:=hv.length;simp at this;match h:cl.args.toList,(by simpa using this.symm:cl.args.toList.length=2)with
       |[p,q],_=>exact⟨p,q,m_ (by simpa using h)⟩
      obtain⟨p,q,hpq⟩:=hal;rw[hpq]at hv;obtain⟨u,u',e,h1,h2⟩:=eD (v:=a.eval p) (v':=a.eval q) hv;simp only[I',I_]at e;obtain⟨rfl,rfl⟩:=e;have hpv:=da h1.val_inv;have hqv:=da h2.val_inv;refine ao C (v :=.int k (sQ x y)) ?_ (cU _ _);unfold execOp;simp[R,resolve,hcl,hpq,invoke,builtin,Builtin.max_,Builtin.max2,hpv,hqv,sQ]
     ·cases j
    ·cases j
   case len=>
    have hh:aw T (.call cl) U fresh c.heap ho=c.heap:=dC hho;split at j
    ·rename_i s;have hal:∃x,cl.args = #[x]:=by
      have:=hv.length;simp at this;exact ajn.1 this.symm
     obtain⟨x,hx⟩:=hal;rw[hx]at hv;obtain⟨u,e,hu⟩:=cP (v:=a.eval x) hv;simp only[I',I_]at e;subst e;cases hty:cl.argTypes[0]? with
     |none =>rw[hty]at j;simp[wv,xD]at j
     |some t=>
      rw[hty]at j;simp only[Option.bind_some]at j;split at j
      next τ l hl=>simp only[θ,χ]at j;obtain⟨_,rfl,rfl⟩:=j;rw[hh];exact ae4 C tk R hcl hx hty hu hl
      ·split at j
       next l hl=>simp only[θ,χ]at j;obtain⟨_,rfl,rfl⟩:=j;rw[hh];exact Qs C tk R hcl hx hty hu hl
       ·cases j
    ·cases j
   case append=>
    split at j
    ·rename_i s x t1 t2 htys _;have hty:cl.argTypes = #[t1,t2]:=m_ (by simpa using htys);have hal:∃p q,cl.args = #[p,q]:=by
      have:=hv.length;simp at this;match h:cl.args.toList,(by simpa using this.symm:cl.args.toList.length=2)with
      |[p,q],_=>exact⟨p,q,m_ (by simpa using h)⟩
     obtain⟨p,q,hpq⟩:=hal;rw[hpq]at hv;obtain⟨u,u',e,h1,h2⟩:=eD (v:=a.eval p) (v':=a.eval q) hv;simp only[I',I_]at e;obtain⟨rfl,rfl⟩:=e;split at j
     ·rename_i e12;subst e12;split at j
      ·rename_i e τ l' hel hl;split at j
       ·rename_i k v t l _;split at j
        ·rename_i t' e' v';split at j
         ·rename_i q1;split at j
          ·rename_i q2;split at j
           ·rename_i q3;split at j
            ·rename_i l2 hc;obtain⟨et,hl2⟩:=cast?_some hc;injection et with et;subst et;have hl2:l2=l:=hl2;subst hl2;subst q1;subst q2;subst q3;simp only[θ,χ,ρ]at j;obtain⟨k1,rfl,rfl⟩:=j;have htch:bu T (.call cl) [.own k v' t' l2,x] fresh=some k:=by simp only[bu,hcl]
             have hk:=hho k htch;have hh:aw T (.call cl) [.own k v' t' l2,x] fresh c.heap (.row t' e' (v'+1))=c.heap.set k (.row t' e' (v'+1)):=by unfold aw;rw[htch]
             rw[hh];exact Vb C tk R hcl hpq hty h1 h2 hl hel hk k1
            ·cases j
           ·cases j
          ·cases j
         ·cases j
        ·cases j
       ·split at j
        ·split at j
         ·simp only[θ,χ,ρ]at j;obtain⟨k1,rfl,rfl⟩:=j;have htch:bu T (.call cl) [.nil,x] fresh=some fresh:=by simp only[bu,hcl]
          have hf:=hho fresh htch;have hh:aw T (.call cl) [.nil,x] fresh c.heap (.row τ e 1)=c.heap.set fresh (.row τ e 1):=by unfold aw;rw[htch]
          rw[hh];exact F7 C tk R hcl hpq hty h1 h2 hl hel hf k1
         ·rename_i l2 _ _ _;simp only[θ,χ,ρ]at j;obtain⟨k1,rfl,rfl⟩:=j;have htch:bu T (.call cl) [.nil,x] fresh=some fresh:=by simp only[bu,hcl]
          have hf:=hho fresh htch;have hh:∀y,aw T (.call cl) [.nil,x] fresh c.heap y=c.heap.set fresh y:=λy=>by unfold aw;rw[htch]
          rw[hh];exact DV C tk R hcl hpq hty h1 h2 hl hel hf k1
        ·cases j
       ·cases j
      ·cases j
     ·cases j
    ·cases j
 |nilCheck x=>
  simp only[R,Op.operands]at j hv;obtain⟨u,rfl,hu⟩:=cP (v:=a.eval x) hv;split at j
  next k off hx=>simp only[I',I_]at hx;subst hx;simp only[θ,χ,ajF]at j;obtain⟨rfl,rfl⟩:=j;have hu':=hu;obtain⟨_,_,e⟩:=hu;simp only[I',I_]at e;refine ao C (v:=a.eval x) ?_ hu';unfold execOp;simp[R,e]
  next t y hx=>simp only[I',I_]at hx;subst hx;simp only[θ,χ,ajF]at j;obtain⟨rfl,rfl⟩:=j;have hu':=hu;obtain⟨ad,_,e,_⟩:=hu;simp only[I',I_]at e;refine ao C (v:=a.eval x) ?_ hu';unfold execOp;simp[R,e]
  ·cases j
 |_=>simp[R]at j
def Rs (tk:TabOk P tab)(C:Inv B w0 J c)(R:RAs c U (o.op.operands.toList.map a.eval)){ho:HO}
  (j:∀k,bu T o.op U fresh=some k→c.heap[k]? = some ho) {out:AV} {ho':HO} (g:ZD tab o U ho=some (true,out,ho')):Ok P B w0 J o a c (aw T o.op U fresh c.heap ho') out:=by
 unfold ZD at g;split at g
 next τ e v' l=>
  have same:∀k,bu T o.op U fresh=some k→aw T o.op U fresh c.heap (.mrow τ e v' l)=c.heap:=λk hk=>by
   unfold aw;rw[hk];exact fK (j k hk)
  have after:∀k ho',bu T o.op U fresh=some k→aw T o.op U fresh c.heap ho'=c.heap.set k ho':=λk ho' hk=>by unfold aw;rw[hk]
  split at g
  next t x y hop=>
   rw[hop]at R j same;split at g
   ·rename_i k v lo hi' q n;obtain⟨u,u',e1,h1,h2⟩:=eD (v:=a.eval x) (v':=a.eval y) R;cases e1;split at g
    ·rename_i q1;subst q1;split at g
     ·rename_i q2;split at g
      ·simp at g;obtain⟨⟨k1,k2⟩,rfl,rfl⟩:=g;rw[hop,same k rfl];exact Qq C tk hop h1 h2 (j k rfl) q2 k1 k2
      ·cases g
     ·cases g
    ·cases g
   ·cases g
  next s x f hop=>
   rw[hop]at R j same;split at g
   ·rename_i k v i off;obtain⟨u,e1,h1⟩:=cP (v:=a.eval x) R;cases e1;split at g
    ·rename_i q1;subst q1;split at g
     next d hd=>cases g;rw[hop,same k rfl];exact Qr C tk hop h1 (j k rfl) hd
     ·cases g
    ·cases g
   ·cases g
  next t x hop=>
   rw[hop]at R j same;split at g
   ·rename_i k v i off;obtain⟨u,e1,h1⟩:=cP (v:=a.eval x) R;cases e1;split at g
    ·rename_i q1;subst q1;split at g
     ·rename_i τ' ht;split at g
      next y hy=>cases g;rw[hop,same k rfl];exact Va C tk hop h1 (j k rfl) ht hy
      ·cases g
     ·cases g
    ·cases g
   ·cases g
  next t x y hop=>
   rw[hop]at R j after;split at g
   ·rename_i k v i off u;obtain⟨u1,u2,e1,h1,h2⟩:=eD (v:=a.eval x) (v':=a.eval y) R;cases e1;split at g
    ·rename_i q1;subst q1;split at g
     ·rename_i τ' ht;split at g
      ·rename_i d hd;split at g
       next z hz=>cases g;rw[hop,after k _ rfl];exact Qo C tk hop h1 h2 (j k rfl) ht hd hz
       ·cases g
      ·cases g
     ·cases g
    ·cases g
   ·cases g
  next t x low high hop=>
   rw[hop]at R j same;split at g
   ·rename_i k v lo hi' r;obtain⟨s,r',e1,h1,h2⟩:=tQ (v:=a.eval x) (vs:=(low.toList++high.toList).map a.eval) (by cases low <;> cases high <;> simpa[Op.operands]using R);cases e1;split at g
    ·rename_i q1;subst q1;split at g
     ·rename_i q2;split at g
      ·split at g
       next a1 b1 hb=>obtain⟨g1,g2⟩:=zp hb h2;simp at g;obtain⟨k1,rfl,rfl⟩:=g;rw[hop,same k rfl];exact Qp C tk hop h1 (j k rfl) q2 g1 g2 k1
       ·cases g
      ·cases g
     ·cases g
    ·cases g
   ·cases g
  next cl hop=>
   rw[hop]at R j same after;split at g
   ·rename_i hcl;replace R:RAs c U (cl.args.toList.map a.eval):=by simpa[Op.operands,Call.operands,hcl]using R
    split at g
    ·rename_i k v lo hi';have hal:∃x,cl.args = #[x]:=by
      have:=R.length;simp at this;exact ajn.1 this.symm
     obtain⟨x,hx⟩:=hal;rw[hx]at R;obtain⟨u,e1,hu⟩:=cP (v:=a.eval x) R;cases e1;have htch:bu T (.call cl) [.msl k v lo hi'] fresh=some k:=by simp[bu,hcl]
     split at g
     ·rename_i q1;subst q1;split at g
      ·rename_i q2;cases g;rw[hop,same k htch];cases hty:cl.argTypes[0]? with
       |none=>rw[hty]at q2;cases q2
       |some t =>rw[hty]at q2;exact Yp C tk hop hcl hx hty hu (j k htch) q2
      ·cases g
     ·cases g
    ·cases g
   ·rename_i hcl;replace R:RAs c U (cl.args.toList.map a.eval):=by simpa[Op.operands,Call.operands,hcl]using R
    split at g
    ·rename_i k v m x t1 t2 htys;have hty:cl.argTypes = #[t1,t2]:=m_ (by simpa using htys);have hal:∃p q,cl.args = #[p,q]:=by
      have:=R.length;simp at this;match h:cl.args.toList,(by simpa using this.symm:cl.args.toList.length=2)with
      |[p,q],_=>exact⟨p,q,m_ (by simpa using h)⟩
     obtain⟨p,q,hpq⟩:=hal;rw[hpq]at R;obtain⟨u,u',e1,h1,h2⟩:=eD (v:=a.eval p) (v':=a.eval q) R;cases e1;have htch:bu T (.call cl) [.msl k v 0 m,x] fresh=some k:=by simp[bu,hcl]
     split at g
     ·rename_i e12;subst e12;split at g
      ·rename_i q1;subst q1;split at g
       ·rename_i e1 τ1 l' hel hl;split at g
        ·rename_i q2;subst q2;split at g
         next l2 hc=>obtain⟨et,hl2⟩:=cast?_some hc;cases et;have hl2:l2=l':=hl2;subst hl2;simp at g;obtain⟨k1,rfl,rfl⟩:=g;rw[hop,after k _ htch];obtain⟨ht,hxv⟩:=eP hl h2;exact M5 C tk hop hcl hpq hty h1 ht (xF hxv) hel (j k htch) k1
         ·cases g
        ·cases g
       ·cases g
      ·cases g
     ·cases g
    ·cases g
   ·cases g
  ·cases g
 ·cases g
def Il (p:TabOk P tab)(ts:SpecsOk P T)(C:Inv B w0 J c)(hg:g=true)(R:RAs c U (o.op.operands.toList.map a.eval)){ho:HO}
  (j:∀k,bu T o.op U fresh=some k→c.heap[k]? = some ho) {out:AV} {f:HO} (l:eff tab T o g U fresh ho=some (true,out,f)):Ok P B w0 J o a c (aw T o.op U fresh c.heap f) out:=by
 unfold eff at l;split at l
 next r hr=>cases l;exact Rs p C R j hr
 ·exact Rv p ts C hg R j l
def Ru (p:TabOk P tab)(C:Inv B w0 J c)(j:RAs c U (o.op.operands.toList.map a.eval)){out:AV}(f:afT tab o U=some out):Ok P B w0 J o a c c.heap out:=by
 unfold afT at f;split at f
 next t len parts hop=>
  rw[hop]at j;simp[Op.operands]at j;split at f
  next τ e ht hel=>
   split at f
   ·rename_i g;simp at g;split at f
    next l hl=>cases f;exact yg C p hop (by simpa using j) ht hel g.1.1 g.1.2 g.2 hl
    ·cases f
   ·cases f
  ·cases f
 ·cases f
end
