/- Calls by contract. -/
import Derived.Test.YtfgpipfjalmooaaGreatAbsJ
import Derived.Laws.MakeOwn
import Derived.Laws.BytesString
set_option linter.all false
namespace Go.Proofs.YtfgpipfjalmooaaGreat
namespace Abs
open Go Go.RowKit
section
variable {P:Program}{tab:Tab}{B:Bd}{w0:World}{U:Sb}{c:Gh}{o:Oper}{a:Act}
variable{k v lo C i off size n cap fresh:Nat}{s:Value}{τ:Ty}{e t:TypeId}{x:Operand}{w:World}{St:Sb}{u:AV}{A:Option Addr}{cl:Call}
def fY {l:List τ.den}(h:RA c (.msl k v lo C) [s])(g:c.heap[k]? = some (.mrow τ e v l)):ue (c.rv k) τ.size lo C s:=by
 obtain⟨J,p,_,m⟩:=h;cases p;rcases m with⟨t,R,r,P,f,_,j⟩|f
 ·rw[g]at f;injection f with f;injection f with q1 q2 q3 q4;subst q1;exact j q3.symm
 ·rw[g]at f;cases f
def GU {l:List τ.den}(h:RA c (.mpt k v i off) [s])(g:c.heap[k]? = some (.mrow τ e v l)):ptS (c.rv k) τ.size i off s:=by
 obtain⟨C,p,_,m⟩:=h;cases p;rcases m with⟨t,P,r,J,f,_,j⟩|f
 ·rw[g]at f;injection f with f;injection f with q1 q2 q3 q4;subst q1;exact j q3.symm
 ·rw[g]at f;cases f
def aar {r:Value}(h:ue r size lo C s):s.oneCell'=true:=by rcases h with⟨_,_,_,rfl⟩|⟨_,_,_,_,_,_,_,rfl,_⟩ <;> rfl
def yA {l:List τ.den}(f:c.heap[k]? = some (.mrow τ e v l))(h:ue (c.rv k) τ.size lo C s):RA c (.msl k v lo C) [s] :=
 ⟨s,rfl,aar h,.inl ⟨τ,e,v,l,f,ζ _,λ_=>h⟩⟩
def aaS {l:List τ.den}(f:c.heap[k]? = some (.mrow τ e v l))(h:ptS (c.rv k) τ.size i off s):RA c (.mpt k v i off) [s] :=
 ⟨s,rfl,by obtain⟨_,_,_,_,_,rfl⟩:=h;rfl,.inl ⟨τ,e,v,l,f,ζ _,λ_=>h⟩⟩
def jg {l:List τ.den}(C:Inv B w0 U c)(hk:c.heap[k]? = some (.mrow τ e v l)){g:Nat}(J:c.rv k = .slice (some ⟨g,0,none⟩) n cap) :
  n=l.length∧∃f r,c.w.heap[g]? = some (.cells f e (0,0))∧n≤cap∧cap≤maxLen∧f.size=cap*τ.size∧f.toList.take (n*τ.size)=r∧Rep c.w c.St (chain (toD τ) l) r∧(∀o,¬c.St g o)∧B≤g:=by
 obtain⟨r,T,j,P⟩:=C.mrow k τ e v l hk;rcases T.2 with⟨p,_⟩|⟨g',R,f,p,h2,h3,h4,h5,h6,h7⟩
 ·rw[J]at p;cases p
 ·rw[J]at p;injection p with q1 q2 q3;cases q1;subst q2;subst q3;exact⟨rfl,f,r,h3,h4,h5,h6,h7,j,P g (by rw[J];rfl),h2⟩
def Tm (C:Inv B w0 U c)(R:TabOk P tab){y:Operand}(ho:o.op = .indexAddr t x y){j :Nat}{q:IntKind}{n:Int}{l:List τ.den}(hx:RA c (.msl k v lo j) [a.eval x])(hy:RA c (.val (.int q) n) [a.eval y])
  (J:c.heap[k]? = some (.mrow τ e v l)) (ht:tab.ty t=some (.slice τ)) (h0:0≤n) (h1:n<((j-lo:Nat):Int)):Ok P B w0 U o a c c.heap (.mpt k v (lo+n.toNat) 0):=by
 obtain⟨i,z,_,_,_,_,_,_,hu⟩:=R.ty t _ ht;obtain⟨e',he,r,hel',hpos⟩:=hu;rcases fY hx J with⟨_,h2,h3,_⟩|⟨g,m,cap,A,T,hle,hm,hs,f⟩
 ·omega
 ·obtain⟨rfl,cur,xs,_,hnc,_⟩:=jg C J T;have f:A=some ⟨g,lo*τ.size,none⟩:=by
   obtain f|f:=f
   ·exact f
   ·omega
  subst f;refine aC C (v :=.pointer (some ((⟨g,lo*τ.size,none⟩:Addr).add (n.toNat*τ.size)))) ?_ (aaS J ⟨g,_,cap,T,Ω, ?_⟩)
  ·have p:=eE hy.val_inv;unfold execOp;simp[ho,hs,p];simp[Instr.indexAt,asIntOf,η he,h0,h1,aK R r]
  ·rw[cV,V_];rfl
def Tn (C:Inv B w0 U c)(J:TabOk P tab){s:TypeId}{f:Nat}(ho:o.op = .fieldAddr s x f){d:Nat}{l:List τ.den}(R:RA c (.mpt k v i off) [a.eval x])
  (r:c.heap[k]? = some (.mrow τ e v l)) (hd:tab.offs s f=some d):Ok P B w0 U o a c c.heap (.mpt k v i (off+d)):=by
 obtain⟨g,n,cap,T,p,hp⟩:=GU R r;obtain⟨fs,fl,j,h1,h2,h3,h4,h5⟩:=J.offs s f d hd;refine aC C (v :=.pointer (some ⟨g,i*τ.size+(off+d),none⟩)) ?_ (aaS r ⟨g,n,cap,T,p,rfl⟩);unfold execOp;have hj:¬j.size=0:=Ω
 simp[ho,hp,Instr.fieldAt,η h1,h2,Instr.sureAddr,fieldPlace,sizeOf,typeInfo,h4,hj,cV,h3,A_]
def Xw:∀{t:Ty} {x:t.den} {off:Nat} {y:τ.den} {l:List Value},xH τ t x off=some y→Rep w St (toD t x) l→off+τ.size≤l.length∧Rep w St (toD τ y) ((l.drop off).take τ.size):=by
 intro t;induction t with
 |cons A R j p=>
  intro x off y l h r;cases off with
  |zero=>
   unfold xH at h;split at h
   next y' f=>obtain⟨e,f⟩:=cast?_some f;subst e;subst f;cases h;have:=r.size;refine⟨Ω, ?_⟩;rw[U_,←this,z_];exact r
   ·obtain⟨c1,c2,rfl,r1,C⟩:=r;obtain⟨J,g⟩:=j h r1;refine⟨by simp;omega, ?_⟩;rw[U_]at g⊢;rw[aj1 Ω];exact g
  |succ n=>
   simp[xH]at h;obtain⟨c1,c2,rfl,r1,C⟩:=r;have P:=r1.size;split at h
   next hlt=>obtain⟨J,g⟩:=j h r1;refine⟨by simp;omega, ?_⟩;rw[aj3 Ω,aj1 Ξ];exact g
   next hlt=>obtain⟨J,g⟩:=p h C;refine⟨by simp;omega, ?_⟩;rw[List.drop_append,akA Ω,n_,P];exact g
 |_=>
  intro x off y l h r;cases off with
  |zero=>
   unfold xH at h;split at h
   next y' f=>obtain⟨e,f⟩:=cast?_some f;subst e;subst f;cases h;have:=r.size;refine⟨Ω, ?_⟩;rw[U_,←this,z_];exact r
   ·cases h
  |succ n=>simp[xH]at h
def XJ {y:τ.den}{j:List Value}(T:Rep w St (toD τ y) j):∀{t:Ty} {x z:t.den} {off:Nat} {g:List Value},xK τ y t x off=some z→Rep w St (toD t x) g →
  off+j.length≤g.length∧Rep w St (toD t z) (g.take off++j++g.drop (off+j.length)):=by
 have C:=T.size;intro t;induction t with
 |cons A Bt l R=>
  intro x z off g h r;cases off with
  |zero=>
   unfold xK at h;split at h
   next y' f=>obtain⟨e,f⟩:=cast?_some f;subst e;subst f;cases h;have:=r.size;refine⟨Ω, ?_⟩;rw[H?,n_,Q',C,←this,List.drop_length,C?];exact T
   ·simp only at h;split at h
    next z' p=>cases h;obtain⟨c1,c2,rfl,r1,P⟩:=r;obtain⟨h1,J⟩:=l p r1;refine⟨by simp;omega,_,c2, ?_,J,P⟩;simp only[H?,n_,Q']at *;rw[aj3 Ω,D_]
    ·cases h
  |succ n=>
   simp[xK]at h;obtain⟨c1,c2,rfl,r1,P⟩:=r;have hs:=r1.size;split at h
   ·rename_i U;split at h
    next z' p=>cases h;obtain⟨h1,J⟩:=l p r1;refine⟨by simp;omega,_,c2, ?_,J,P⟩;rw[aj1 Ω,aj3 Ω];simp
    ·cases h
   ·rename_i U;split at h
    ·rename_i z' p;cases h;obtain⟨h1,J⟩:=R p P;refine⟨by simp;omega,c1,_, ?_,r1,J⟩;rw[List.take_append,List.drop_append,K_ Ω,akA Ω,n_,hs,D_,D_,D_,
      show n+1+j.length-A.size=n+1-A.size+j.length by omega]
    ·cases h
 |_=>
  intro x z off g h r;cases off with
  |zero=>
   unfold xK at h;split at h
   next y' f=>obtain⟨e,f⟩:=cast?_some f;subst e;subst f;cases h;have:=r.size;refine⟨Ω, ?_⟩;rw[H?,n_,Q',C,←this,List.drop_length,C?];exact T
   ·cases h
  |succ n=>simp[xK]at h
def K0 {w:World}{St:Sb}{t:Ty}:∀{l:List t.den} {f:List Value} {i:Nat} {z:t.den} {g:List Value},Rep w St (chain (toD t) l) f→i<l.length→Rep w St (toD t z) g →
  Rep w St (chain (toD t) (l.set i z)) (f.take (i*t.size)++g++f.drop (i*t.size+t.size))
 |x::l,f,0,z,g,h,_,p=>by obtain⟨c1,c2,rfl,j,J⟩:=h;have r:=j.size;refine⟨g,c2, ?_,p,J⟩;rw[ajS,H?,n_,Q',←r,akk]
 |x::l,f,i+1,z,g,h,C,p=>by obtain⟨c1,c2,rfl,j,J⟩:=h;have r:=j.size;have:=K0 J (by simpa using C) p;refine⟨c1,_, ?_,j,this⟩;rw[show(i+1)*t.size=c1.length+i*t.size by rw[V_,r];omega,A_,akh,Z_,D_,D_,D_]
def QC {f:Type}{l:List f}{d:f}(h:i<l.length):l.getD i d=l[i]:=by simp[List.getD,ε h]
def Ya (C:Inv B w0 U c)(tk:TabOk P tab)(ho:o.op = .load t x){f :Ty}{l:List τ.den}{y:f.den}(hx:RA c (.mpt k v i off) [a.eval x])
  (hk:c.heap[k]? = some (.mrow τ e v l)) (ht:tab.ty t=some f) (hy:xH f τ (l.getD i (zero τ)) off=some y):Ok P B w0 U o a c c.heap (.val f y):=by
 obtain⟨g,n,cap,hr,hin,hp⟩:=GU hx hk;obtain⟨rfl,cur,xs,hg,hnc,_,hcs,htk,J,_⟩:=jg C hk hr;have he:=rr J i hin;rw[QC hin]at hy;obtain⟨hle,r⟩:=Xw hy he;have hxl:=bw J;have hlen2:((xs.drop (i*τ.size)).take τ.size).length≤τ.size:=by simp;omega
 have R:∀j u,((((xs.drop (i*τ.size)).take τ.size).drop off).take f.size)[j]? = some u→c.w.cell? ((⟨g,i*τ.size+off,none⟩:Addr).add j)=some u:=by
  intro j u p;rw[O']at p;split at p
  next hj=>
   rw[h_,O']at p;split at p
   ·rw[h_,←htk,O']at p;split at p
    ·rw[cV];simp[World.cell?,hg];simpa[A_]using p
    ·cases p
   ·cases p
  ·cases p
 obtain⟨v',hrun,T⟩:=cA tk ht c.w ⟨g,i*τ.size+off,none⟩ _ r.size R;refine aC C (v:=v') ?_ ⟨v',rfl,fW r T⟩;unfold execOp;simp[ho,hp,Instr.loadAt,Instr.sureAddr,hrun]
def LK (w:World)(g:Nat)(j:Array Value):w.grownBy (w.setRow g j) (some g) :=
 ⟨rfl,rfl,rfl,by simp[World.setRow],λb _ f=>akc _ _ _ _ (λe=>f (by rw[e]))⟩
def aae (C:Inv B w0 U c){l l2:List τ.den}(hk:c.heap[k]? = some (.mrow τ e v l)){g:Nat}(J:c.rv k = .slice (some ⟨g,0,none⟩) n cap){cur:Array Value}
  (hg:c.w.heap[g]? = some (.cells cur e (0,0))) (hl:l2.length=l.length) {f:Array Value} (ha:f.size=cur.size) (r:Rep c.w c.St (chain (toD τ) l2) (f.toList.take (n*τ.size))) :
  let c':Gh:={ c with heap:=c.heap.set k (.mrow τ e v l2),w:=c.w.setRow g f,St:=c.St,rv:=λi=>if i=k then c.rv k else c.rv i }
  Inv B w0 U c'∧Ev c c':=by
 obtain⟨hn,cur',xs,T,hnc,hcm,hcs,htk,hrp,R,hB⟩:=jg C hk J;rw[hg]at T;cases T;have P:obk c k=some g:=by unfold obk;rw[hk,J];rfl
 have j:∀(p:Addr) u,c.St p.block p.off→p.spot=none→c.w.cell? p=some u→(c.w.setRow g f).cell? p=some u:=λp u hst _ hc=>by have:p.block≠g:=λe=>R p.off (e ▸ hst);exact(T? (akc _ _ _ _ this)).trans hc
 refine C.obj (au hk) (by rw[P];exact LK _ _ _) (ζ _) (Sb.le.refl _) (λ_ _ _ _ x=>x) (λ_ _ x=>.inl x) j (.inr ⟨τ,e,v,l,hk,.inl ⟨v,l2,rfl,ζ _,λ_=>rfl⟩⟩)
  (.inr ⟨τ,e,v,l2,rfl,.inr (.inl (by rw[P,J];rfl)),f.toList.take (n*τ.size),⟨?_,.inr ⟨g,cap,f, ?_,hB,akD _ _ _ _ _ _ hg,Ω,hcm,by rw[ha,hcs],by rw[hl,←hn]⟩⟩,r.mono (Sb.le.refl _) j,λb hb o=>?_⟩)
 ·have h1:n*τ.size≤f.toList.length:=by rw[ω,ha,hcs];exact l_ _ hnc
  rw[g_,ajG h1,hl,←hn]
 ·rw[J,hl,←hn]
 ·rw[J]at hb;simp only[Value.ownBlock,θ]at hb;rw[←hb];exact R o
def Tk (C:Inv B w0 U c)(tk:TabOk P tab){y:Operand}(ho:o.op = .store t x y){r :Ty}{l:List τ.den}{d:r.den}{z:τ.den}(hx:RA c (.mpt k v i off) [a.eval x])(hy:RA c u [a.eval y])
  (hk:c.heap[k]? = some (.mrow τ e v l)) (ht:tab.ty t=some r) (hd:dat? r u=some d) (hz:xK r d τ (l.getD i (zero τ)) off=some z):Ok P B w0 U o a c (c.heap.set k (.mrow τ e v (l.set i z))) .unk:=by
 obtain⟨g,n,cap,hr,J,hp⟩:=GU hx hk;obtain⟨hn,f,xs,hg,hnc,hcm,hcs,htk,p,hns,hB⟩:=jg C hk hr;subst hn;have he:=rr p i J;rw[QC J]at hz;have T:=(dat?_sound hd hy).cells;have hds:=T.size;obtain⟨hle,hset⟩:=XJ T hz he;have hch:=K0 p J hset;have hxl:=bw p;obtain⟨ii,zz,R,hsz,_⟩:=tk.ty t _ ht;have hcl:f.toList.length=cap*τ.size:=by rw[ω,hcs]
 have hni:i*τ.size+τ.size≤l.length*τ.size:=by rw[←Nat.succ_mul];exact l_ _ J
 have hnc':l.length*τ.size≤cap*τ.size:=l_ _ hnc;have hseg:((xs.drop (i*τ.size)).take τ.size).length=τ.size:=by simp;omega
 rw[hseg]at hle;generalize hcy:(a.eval y).cells.toList=cy at *;have hfit:i*τ.size+off+0+cy.length≤f.size:=by rw[hcs];omega
 have hst:=ako (P:=P) g (i*τ.size+off) e cy 0 f c.w hg hfit T.one;simp at hst;have hA:(f.toList.take (i*τ.size+off)++cy++f.toList.drop (i*τ.size+off+cy.length)).toArray.size=f.size:=by simp;omega
 have hT:((f.toList.take (i*τ.size+off)++cy++f.toList.drop (i*τ.size+off+cy.length)).toArray.toList.take (l.length*τ.size)) =
   xs.take (i*τ.size)++(((xs.drop (i*τ.size)).take τ.size).take off++cy++((xs.drop (i*τ.size)).take τ.size).drop (off+cy.length))++xs.drop (i*τ.size+τ.size):=by
  rw[←htk];apply p?;intro j;simp only[O',List.getElem?_append,h_,g_,Y',ak4,hcl];by_cases h1:j<i*τ.size
  ·have e1:j<l.length*τ.size:=Ω
   have e2:j<min (i*τ.size+off) (cap*τ.size):=Ω
   simp only[e1,i?];repeat (first|rw[q' Ω]|rw[B' Ω])
  ·by_cases h2:j<i*τ.size+off
   ·repeat (first|rw[q' Ω]|rw[B' Ω])
    congr 1;omega
   ·by_cases h3:j<i*τ.size+off+cy.length
    ·repeat (first|rw[q' Ω]|rw[B' Ω])
     congr 1;omega
    ·by_cases h4:j<i*τ.size+τ.size
     ·repeat (first|rw[q' Ω]|rw[B' Ω])
      congr 1;omega
     ·by_cases h5:j<l.length*τ.size
      ·repeat (first|rw[q' Ω]|rw[B' Ω])
       congr 1;omega
      ·repeat (first|rw[q' Ω]|rw[B' Ω])
 obtain⟨hI,hE⟩:=aae C hk hr hg (l2:=l.set i z) Ψ hA (by rw[hT];exact hch);intro K Q h;have hrun:(execOp a.eval o).run P c.w = .ok .skip (c.w.setRow g (f.toList.take (i*τ.size+off)++cy++f.toList.drop (i*τ.size+off+cy.length)).toArray):=by
  unfold execOp;have hcs':(a.eval y).cells.size=ii.size:=by rw[hsz,←Array.length_toList,hcy,hds]
  simp[ho,hp,Instr.storeAt,Instr.sureAddr,storeVar,sizeOf,typeInfo,R,hcs',hcy,hst]
 unfold Oper.wp;rw[hrun];exact h undef _ rfl hI hE ⟨_,rfl⟩
def aaq {r:Value}{j:Nat}(h:ue r size lo C s)(J:s = .slice A n cap)(P:n≤cap)(R:i≤j)(hj:j≤C-lo) :
  ue r size (lo+i) (lo+j) (.slice (if cap=i then A else A.map (·.add (i*size))) (j-i) (cap-i)):=by
 rcases h with⟨p,rfl,rfl,l⟩|⟨g,m,U,A',p,h2,h3,l,f⟩
 ·rw[J]at l;injection l with q1 q2 q3;subst q1;subst q2;subst q3;have:i=0:=Ω
  have:j=0:=Ω
  subst i;subst j;exact .inl ⟨p,rfl,rfl,rfl⟩
 ·rw[J]at l;injection l with q1 q2 q3;subst q1;subst q2;subst q3;refine .inr ⟨g,m,U,_,p,Ω,Ω,by rw[show lo+j-(lo+i)=j-i by omega,Nat.sub_sub], ?_⟩;split
  next hc=>
   by_cases T:i=0
   ·subst T;obtain f|f:=f
    ·exact .inl (by rw[f,akg])
    ·exact .inr ⟨Ω,Ω⟩
   ·refine .inr ⟨?_,Ω⟩;omega
  next hc=>
   obtain f|f:=f
   ·left;rw[f];simp[aj8,cV,V_]
   ·omega
def Ox {r:Value}(h:ue r size lo C s):∃A cap,s = .slice A (C-lo) cap:=by
 rcases h with⟨_,rfl,rfl,rfl⟩|⟨g,m,f,j,_,_,_,rfl,_⟩
 ·exact⟨_,_,rfl⟩
 ·exact⟨_,_,rfl⟩
def aas {l:List τ.den}(P:Inv B w0 U c)(J:c.heap[k]? = some (.mrow τ e v l))(h:ue (c.rv k) τ.size lo C s)(j:s = .slice A n cap):n≤cap∧n=C-lo:=by
 rcases h with⟨p,rfl,rfl,f⟩|⟨g,m,cp,A',p,h2,T,f,R⟩
 ·rw[j]at f;injection f with _ f R;omega
 ·rw[j]at f;injection f with _ f h6;obtain⟨_,_,_,_,r,_⟩:=jg P J p;omega
def Tl (C:Inv B w0 U c)(tk:TabOk P tab){r j:Option Operand}(ho:o.op = .slice t x r j none){g :Nat}{l:List τ.den}(hx:RA c (.msl k v lo g) [a.eval x])
  (hk:c.heap[k]? = some (.mrow τ e v l)) (ht:tab.ty t=some (.slice τ)) {J b1:Option Int} (hlo:I3 (r.map a.eval) J) (hhi:I3 (j.map a.eval) b1) (hc:(aM J b1 (g-lo)).1=true) :
  Ok P B w0 U o a c c.heap (.msl k v (lo+(aM J b1 (g-lo)).2.1) (lo+(aM J b1 (g-lo)).2.2)):=by
 obtain⟨i,z,_,_,_,_,_,_,hu⟩:=tk.ty t _ ht;obtain⟨e',he,R,_⟩:=hu;have f:=fY hx hk;obtain⟨A,cap,T⟩:=Ox f;obtain⟨p,_⟩:=aas C hk f T;obtain⟨h1,h2,h3⟩:=kN (P:=P) c.w true (g-lo) cap hlo hhi hc p;refine aC C ?_ (yA hk (aaq f T p h2 h3));unfold execOp;simp[ho,T,Instr.sliceAt,ν,η he,Instr.slice,h1,aK tk R,j_]
def aa9 (C:Inv B w0 U c)(r:TabOk P tab)(ho:o.op = .call cl)(p:cl.callee = .builtin .len)(f:cl.args = #[x])(j:cl.argTypes[0]? = some t){g :Nat}{l:List τ.den}(J:RA c (.msl k v lo g) [a.eval x])
  (hk:c.heap[k]? = some (.mrow τ e v l)) (T:tab.ty t=some (.slice τ)):Ok P B w0 U o a c c.heap (.val (.int .i64) ((g-lo:Nat):Int)):=by
 obtain⟨i,z,_,_,_,_,_,_,R⟩:=r.ty t _ T;obtain⟨e',he,_⟩:=R;obtain⟨A,cap,hs⟩:=Ox (fY J hk);refine aC C ?_ (fJ _ _);unfold execOp;simp[ho,resolve,p,f,invoke,builtin,Builtin.len_,j,hs,η he,goInt]
def aes (C:Inv B w0 U c){m:Nat}{l:List τ.den}(R:c.heap[k]? = some (.mrow τ e v l))(h:ue (c.rv k) τ.size 0 m s) :
  m≤l.length∧s.ownBlock=obk c k∧∃r,c.w.ownsRow B e τ.size s m r∧Rep c.w c.St (chain (toD τ) (l.take m)) r:=by
 obtain⟨r,hown,hrep,_⟩:=C.mrow k τ e v l R;have f:obk c k=(c.rv k).ownBlock:=by unfold obk;rw[R]
 rcases h with⟨p,_,rfl,rfl⟩|⟨g,n,cap,A,p,_,h3,rfl,h5⟩
 ·exact⟨i_ _,by rw[f,p],[],c? _ _ _ _,rfl⟩
 ·obtain⟨rfl,j,xs',hg,hnc,hcm,T,J,P,_,hB⟩:=jg C R p;obtain rfl|⟨_,h5⟩:=h5
  ·refine⟨h3,by rw[f,p];rfl,j.toList.take (m*τ.size),⟨?_,.inr ⟨g,cap,j, ?_,hB,hg,Ω,hcm,T,rfl⟩⟩, ?_⟩
   ·have:m*τ.size≤cap*τ.size:=l_ _ Ω;simp;omega
   ·rw[ajS,akf,akf]
   ·have:=tv m h3 P;rw[←J,alc]at this;rw[ajG (l_ _ h3)]at this;exact this
  ·omega
def Ft {v:Value}{f:List Value}(h:w.ownsRow B e size v n f):ue v size 0 n v:=by
 rcases h.2 with⟨rfl,rfl⟩|⟨g,cap,j,rfl,_⟩
 ·exact .inl ⟨rfl,rfl,rfl,rfl⟩
 ·exact .inr ⟨g,n,cap,some ⟨g,0,none⟩,rfl,i_ _,ζ _,Ψ,.inl Ψ⟩
def Px (C:Inv B w0 U c)(tk:TabOk P tab){s:Operand}(ho:o.op = .call cl)(hcl:cl.callee = .builtin .append)(hargs:cl.args = #[s,x])(hty:cl.argTypes = #[t,t]){m:Nat}{l f:List τ.den}
  (hs:RA c (.msl k v 0 m) [a.eval s]) (ht:tab.ty t=some (.slice τ)) (hx:∃A cp ds,a.eval x = .slice A f.length cp∧Rep c.w c.St (chain (toD τ) f) ds∧ds.length=f.length*τ.size∧(f.length=0∨∃p,A=some p∧∀j u,ds[j]? = some u→c.w.cell? (p.add j)=some u))
  (he:tab.elem t=some e) (hk:c.heap[k]? = some (.mrow τ e v l)) (hlim:m+f.length≤LIM) :
  Ok P B w0 U o a c (c.heap.set k (.mrow τ e (v+1) (l.take m++f))) (.msl k (v+1) 0 (m+f.length)):=by
 obtain⟨i,z,_,_,_,_,_,_,hu⟩:=tk.ty t _ ht;obtain⟨R,u1,u2,u3,hpos⟩:=hu;have:R=e:=by rw[he]at u3;exact(υ u3).symm
 subst this;obtain⟨ie,ze,t1,t2,t3,t4,t5,_⟩:=tk.ty R τ u2;have T:=fY hs hk;obtain⟨hml,r,xs,hown,hrep⟩:=aes C hk T;obtain⟨A,cp,ds,ex,hrx,hdl,hsrc⟩:=hx;obtain⟨r63,rby⟩:=pu hlim t5;obtain⟨v',w',hrun,h2,h3,h4,h5,hd⟩:=b8 (P:=P) (B:=B) c.w t o.type R ie ze τ.size ie.bytes u1 t1 t3 t2 rfl (by rw[←Array.length_toList,t4,←(fQ (w:=c.w) (St:=c.St) τ).size]) hpos (a.eval s) m xs hown A f.length cp ds hdl hsrc hrx.one r63 rby C.size;obtain⟨_,_,_,hns⟩:=C.mrow k τ R v l hk;have J:obk c k=(c.rv k).ownBlock:=by unfold obk;rw[hk]
 have g:∀(p:Addr) u,c.St p.block p.off→p.spot=none→c.w.cell? p=some u→w'.cell? p=some u:=λp u hst _ hc=>by refine h3.cell hc (λe=>?_);rw[r,J]at e;exact hns p.block e.symm p.off hst
 have hlen:(l.take m++f).length=m+f.length:=by simp;omega
 have hnst:∀b,v'.ownBlock=some b→∀o,¬c.St b o:=λb hb o x=>by
  obtain h4|h4:=h4
  ·rw[h4,r,J]at hb;exact hns b hb o x
  ·rw[h4]at hb;injection hb with hb;have:=C.bnd _ _ x;omega
 obtain⟨hI,hE⟩:=C.obj (k:=k) (ho' :=.mrow τ R (v+1) (l.take m++f)) (w':=w') (St':=c.St) (r':=v') (au hk) (by rw[←r];exact h3) hd (Sb.le.refl _) (λ_ _ _ _ x=>x) (λ_ _ x=>.inl x) g
  (.inr ⟨τ,R,v,l,hk,.inl ⟨v+1,_,rfl,Ω,λh=>Ω⟩⟩)
  (.inr ⟨τ,R,v+1,_,rfl,.inr (by rw[←r];exact h4),xs++ds,by rw[hlen];exact h2,(lC hrep hrx).mono (Sb.le.refl _) g,hnst⟩)
 refine eW (v:=v') (gk ho hcl hargs hty (by rw[ex];exact hrun)) rfl hI hE (yA (l:=l.take m++f) (e:=R) (τ:=τ) ?_ ?_)
 ·show(c.heap.set k _)[k]? = _;rw[get_set,q' rfl,q' (au hk)]
 ·show ue (if k=k then v' else c.rv k) τ.size 0 (m+f.length) v';rw[q' rfl];exact Ft h2
def GD (C:Inv B w0 U c)(tk:TabOk P tab){s:Operand}(ho:o.op = .call cl)(hcl:cl.callee = .builtin .append)(p:cl.args = #[s,x])(hty:cl.argTypes = #[t,t]){j:List τ.den}
  (hs:RA c .nil [a.eval s]) (hx:RA c u [a.eval x]) (hl:zH (tab.ty t) u=some ⟨τ,j⟩) (he:tab.elem t=some e) (hf:c.heap[fresh]? = some .none) (hlim:j.length≤LIM) :
  Ok P B w0 U o a c (c.heap.set fresh (.mrow τ e 1 j)) (.msl fresh 1 0 j.length):=by
 obtain⟨ht,hxv⟩:=gF hl hx;obtain⟨i,z,_,_,_,_,_,_,hu⟩:=tk.ty t _ ht;obtain⟨r,u1,u2,u3,hpos⟩:=hu;have:r=e:=by rw[he]at u3;exact(υ u3).symm
 subst this;obtain⟨ie,ze,t1,t2,t3,t4,t5,_⟩:=tk.ty r τ u2;obtain⟨A,cp,ds,ex,hrx,hdl,hsrc⟩:=Ek hxv;obtain⟨r63,rby⟩:=pu hlim t5;have hs:[a.eval s]=[.slice none 0 0]:=hs;simp at hs;obtain⟨J,w',hrun,h2,h3,R,h5,hd⟩:=b8 (P:=P) (B:=B) c.w t o.type r ie ze τ.size ie.bytes u1 t1 t3 t2 rfl (by rw[←Array.length_toList,t4,←(fQ (w:=c.w) (St:=c.St) τ).size]) hpos (.slice none 0 0) 0 [] (c? _ _ _ _) A j.length cp ds hdl hsrc hrx.one (by simpa using r63) (by simpa using rby) C.size;have f:obk c fresh=none:=by unfold obk;rw[hf]
 have g:∀(T:Addr) u,c.St T.block T.off→T.spot=none→c.w.cell? T=some u→w'.cell? T=some u:=λT u hst _ hc=>by refine h3.cell hc (λe=>?_);cases e
 have hnst:∀b,J.ownBlock=some b→∀o,¬c.St b o:=λb hb o x=>by
  obtain R|R:=R
  ·rw[R]at hb;cases hb
  ·rw[R]at hb;injection hb with hb;have:=C.bnd _ _ x;omega
 have h2':w'.ownsRow B r τ.size J j.length ds:=by simpa using h2
 obtain⟨hI,hE⟩:=C.obj (k:=fresh) (ho' :=.mrow τ r 1 j) (w':=w') (St':=c.St) (r':=J) (au hf) (by rw[f];exact h3) hd (Sb.le.refl _) (λ_ _ _ _ x=>x) (λ_ _ x=>.inl x) g (.inl hf)
  (.inr ⟨τ,r,1,_,rfl,.inr (by rw[f];exact R),ds,h2',hrx.mono (Sb.le.refl _) g,hnst⟩)
 refine eW (v:=J) (gk ho hcl p hty (by rw[hs,ex];exact hrun)) rfl hI hE (yA (l:=j) (e:=r) (τ:=τ) ?_ ?_)
 ·show(c.heap.set fresh _)[fresh]? = _;rw[get_set,q' rfl,q' (au hf)]
 ·show ue (if fresh=fresh then J else c.rv fresh) τ.size 0 j.length J;rw[q' rfl];exact Ft h2'
def Ee (C:Inv B w0 U c)(tk:TabOk P tab){parts:Array (Nat×Operand)}(ho:o.op = .buildSlice t 0 parts)(hp:parts.size=0)
  (ht:tab.ty t=some (.slice τ)) (he:tab.elem t=some e) (R:c.heap[fresh]? = some .none):Ok P B w0 U o a c (c.heap.set fresh (.mrow τ e 0 [])) (.msl fresh 0 0 0):=by
 obtain⟨i,z,_,_,_,_,_,_,hu⟩:=tk.ty t _ ht;obtain⟨p,u1,u2,u3,hpos⟩:=hu;have:p=e:=by rw[he]at u3;exact(υ u3).symm
 subst this;have hpe:parts = #[]:=l? hp;subst hpe;have g:obk c fresh=none:=by unfold obk;rw[R]
 have hb:Below c.w.heap.size c.w (c.w.alloc (.cells #[] p)):=(Below.refl _ _).alloc (ζ _) _;have f:∀(r:Addr) u,c.St r.block r.off→r.spot=none→c.w.cell? r=some u→(c.w.alloc (.cells #[] p)).cell? r=some u:=λr u T _ hc=>(hb.cell (C.bnd _ _ T)).trans hc;have J:Rep c.w c.St (chain (toD τ) []) []:=rfl;obtain⟨hI,hE⟩:=C.obj (k:=fresh) (ho' :=.mrow τ p 0 []) (w':=c.w.alloc (.cells #[] p)) (St':=c.St) (r' :=.slice (some ⟨c.w.heap.size,0,none⟩) 0 0) (au R)
  (by rw[g];exact⟨rfl,rfl,rfl,hb.size,λb j _=>hb.block b j⟩) (ζ _) (Sb.le.refl _) (λ_ _ _ _ x=>x) (λ_ _ x=>.inl x) f (.inl R)
  (.inr ⟨τ,p,0,_,rfl,.inr (.inr rfl),[],⟨Ψ,.inr ⟨c.w.heap.size,0, #[],rfl,C.size,n? c.w _,ζ _,by simp[maxLen],Ψ,Ψ⟩⟩,J.mono (Sb.le.refl _) f,λb j o x=>by
   simp only[Value.ownBlock,θ]at j;have:=C.bnd _ _ x;omega⟩)
 refine eW (v :=.slice (some ⟨c.w.heap.size,0,none⟩) 0 0) ?_ rfl hI hE (yA (τ:=τ) (e:=p) (l:=[]) ?_ ?_)
 ·unfold execOp;have hno:¬(0*τ.size>2^24):=Ω
  have h0:0*τ.size=0:=ajS _;simp only[ho,Instr.buildSlice,ν,η u1,χ,aK tk u2,B' hno];rw[q' h0,ν,j_,χ];simp[newRow,Instr.fill,show Array.range 0 = #[] from rfl]
 ·show(c.heap.set fresh _)[fresh]? = _;rw[get_set,q' rfl,q' (au R)]
 ·show ue (if fresh=fresh then _ else c.rv fresh) τ.size 0 0 _;rw[q' rfl];exact .inr ⟨c.w.heap.size,0,0,some ⟨c.w.heap.size,0,none⟩,rfl,i_ _,ζ _,Ψ,.inl Ψ⟩
def JQ {w:World}{St:Sb}:∀{l:List Int} {f:List Value},Rep w St (chain (toD (.int .u8)) l) f→f=l.map (λn=>.int .u8 n)
 |[],f,h=>h
 |n::l,f,h=>by obtain⟨c1,c2,rfl,⟨rfl,_⟩,h2⟩:=h;rw[JQ h2];rfl
def ID (C:Inv B w0 U c)(tk:TabOk P tab){s:TypeId}(ho:o.op = .convert s t x){l:List Int}(hx:RA c u [a.eval x])(hl:one? (.slice (.int .u8)) u=some l)(ht:tab.ty t=some .str)(hs:tab.ty s=some (.slice (.int .u8))) :
  Ok P B w0 U o a c c.heap (.val .str (l.map λn:Int=>UInt8.ofNat n.toNat)):=by
 obtain⟨i,z,_,_,_,_,_,_,hu⟩:=tk.ty t _ ht;have hu:P.underlying t=some .string:=hu;obtain⟨i',z',_,_,_,_,_,_,hus⟩:=tk.ty s _ hs;obtain⟨e,u1,u2,u3,hpos⟩:=hus;obtain⟨_,_,_,_,_,_,_,_,p⟩:=tk.ty e _ u2;have p:P.underlying e=some (.int .u8):=p;obtain⟨A,cp,ev,hcap,hds⟩:=eh ((repv_cell (t :=.slice (.int .u8)) rfl).1 (one?_sound hl hx));simp at ev;refine aC C (v :=.string ⟨(l.map λn:Int=>UInt8.ofNat n.toNat).toArray⟩) ?_ (Ga _);have f:(Conv.bytesToString (a.eval x)).run P c.w = .ok (.string ⟨(l.map λn:Int=>UInt8.ofNat n.toNat).toArray⟩) c.w:=by
  rw[ev];cases A with
  |none=>
   have hl0:l=[]:=by
    obtain h0|⟨ad,ds,h0,_⟩:=hds
    ·exact U' h0
    ·cases h0
   subst hl0;simp[Conv.bytesToString];rfl
  |some ad=>
   have J:(loadCells ad l.length).run P c.w = .ok (l.map (Value.int .u8)).toArray c.w:=by
    obtain h0|⟨ad',ds,h0,_,hrep,T⟩:=hds
    ·have:l=[]:=U' h0;subst this;simp[loadCells,loadCellsFrom]
    ·cases h0;have hb:=JQ hrep;have:=ajJ (P:=P) c.w ad ds (λj u hu=>(T j u hu).1);rw[hb]at this;simpa using this
   rw[run_bytesToString (P:=P) c.w ad l.length cp l J];have R:∀(ns:List Int) (g:ByteArray),ns.foldl (λr n=>r.push (UInt8.ofNat n.toNat)) g=⟨g.data++(ns.map λn:Int=>UInt8.ofNat n.toNat).toArray⟩:=by
    intro ns;induction ns with
    |nil=>intro g;simp
    |cons n ns ih=>intro g;simp only[List.foldl_cons,ih,a?];congr 1;simp[ByteArray.push]
   rw[R];congr 3;simp
 unfold execOp;simp[ho,convert,η u1,η hu];rw[ev]at f⊢;simp[η p,f]
end
def pF (g:Bool):AV→Bool×AV
 |.cond c a=>(aS g c,a)
 |a=>(true,a)
def qk (g:Bool):List AV→Bool×List AV
 |[]=>(true,[])
 |a::l=>((pF g a).1&&(qk g l).1,(pF g a).2::(qk g l).2)
def iz (op:Op)(g:Bool)(l:List AV):Bool×List AV :=
 match op,l with
 |.pick _ _ _,a::r=>((pF g a).1,(pF g a).2::r)
 |_,l=>qk g l
def Bi (env:List AV)(g:List Oper)(j:Nat)(f:Bool):Option Bool :=
 match (g[j]?).bind (·.dst)with
 |some d=>match env.getD d .unk with
  |.val .bool b=>some (match f with|true=>b|false=>!b)
  |.cond c (.val .bool b)=>some (c&&(match f with|true=>b|false=>!b))
  |_=>none
 |none=>none
structure Dl where
 chk:Bool
 out:AV
 dst:Option Nat
 wr:Option (Nat×HO)
def uD (env:List AV)(f:Option Nat)(a:AV):List AV :=
 match f with
 |some d=>env.set d a
 |none=>env
def FF (f:List HO)(wr:Option (Nat×HO)):List HO :=
 match wr with
 |some (k,ho)=>f.set k ho
 |none=>f
def Dl.app (d:Dl)(σ:Sg):Sg:=⟨uD σ.env d.dst d.out,FF σ.heap d.wr⟩
def Qx (f:List HO)(k:Option Nat):HO :=
 match k with
 |some k=>f.getD k .none
 |none=>.none
def Vb (f:Tab)(T:Specs)(o:Oper)(fresh:Nat)(g:Option Bool)(J:List AV)(l:HO):Option Dl :=
 match g with
 |none=>match eff f T o true J fresh l with
  |some (c,out,j)=>some ⟨c,out,o.dst,if cW T o.op then none else match cg T o.op J fresh with|some k=>some (k,j)|none=>none⟩
  |none=>none
 |some g=>if cW T o.op then match eff f T o g (iz o.op g J).2 fresh l with
   |some (c,out,_)=>some ⟨(iz o.op g J).1&&aS g c,.cond g out,o.dst,none⟩
   |none=>none
  else match ah0 f o (iz o.op g J).2 with
   |some out=>some ⟨(iz o.op g J).1,.cond g out,o.dst,none⟩
   |none=>none
def gOf (env:List AV)(f:List Oper)(o:Oper):Option (Option Bool) :=
 match o.guard with
 |none=>some none
 |some (j,want)=>match Bi env f j want with
  |some g=>some (some g)
  |none=>none
def dl (env:List AV)(o:Oper):List AV:=o.op.operands.toList.map (Ti env)
def mw (T:Specs)(o:Oper)(fresh:Nat)(g:Option Bool)(J:List AV):Option Nat :=
 match g with
 |none=>cg T o.op J fresh
 |some g=>cg T o.op (iz o.op g J).2 fresh
def xJ (j:Tab)(T:Specs)(l:List Oper)(fresh:Nat)(o:Oper)(f:Sg):Option Dl :=
 match gOf f.env l o with
 |some g=>Vb j T o fresh g (dl f.env o) (Qx f.heap (mw T o fresh g (dl f.env o)))
 |none=>none
def AV.noCond:AV→Bool
 |.fn _ c=>c.noCond
 |.agg p=>p.noCond
 |.tup p=>p.noCond
 |.pcons a b=>a.noCond&&b.noCond
 |.cond _ _=>false
 |_=>true
def clr:AV→AV
 |.cond _ _=>.unk
 |a=>a
inductive Tgt where
 |fn (f:FuncId)|yld (j:Nat)
abbrev Yk:=Nat→List AV→List HO→(AV→List HO→Option AV)→Option AV
abbrev Ck:=Tgt→List AV→List HO→(AV→List HO→Option AV)→Option AV
structure Callk where
 call:Ck
 iter:Yk→Ck
def cI (o:Oper)(env:List AV):Option (Tgt×List AV) :=
 match o.op,o.guard with
 |.call cl,none=>match cl.callee,dl env o with
  |.value _,.fn f caps::args=>if env.all AV.noCond then some (.fn f,args++caps.parts)else none
  |.value _,.yld j::args=>if env.all AV.noCond then some (.yld j,args)else none
  |_,_=>none
 |_,_=>none
def PP (g:Tab)(o:Oper)(f:Sg)(fresh:Nat):Option (Bool×AV×List HO) :=
 match o.op,o.guard with
 |.call cl,none=>match cl.callee with
  |.builtin .append=>match dl f.env o,cl.argTypes.toList with
   |[s,.msl k v lo C],[t1,j]=>if t1=j then match g.elem t1,g.ty t1,f.heap[k]? with
     |some e,some (.slice τ),some (.mrow τ' _ v' l)=>if v'=v then match cast? (.slice τ') (.slice τ) l with
       |some l=>match s with
        |.own J r j p=>match f.heap[J]? with
         |some (.row t3 e3 v3)=>if t3=j then if e3=e then if v3=r then match cast? (.slice j) (.slice τ) p with
           |some p=>some (decide (p.length+((l.take C).drop lo).length≤LIM),.own J (r+1) τ (p++(l.take C).drop lo),f.heap.set J (.row τ e (r+1)))
           |none=>none
          else none else none else none
         |_=>none
        |.nil=>match f.heap[fresh]? with
         |some .none=>some (decide (((l.take C).drop lo).length≤LIM),.own fresh 1 τ ((l.take C).drop lo),f.heap.set fresh (.row τ e 1))
         |_=>none
        |_=>none
       |none=>none
      else none
     |_,_,_=>none
    else none
   |_,_=>none
  |_=>none
 |_,_=>none
def aP (l:Tab)(T:Specs)(ck:Callk)(C:List Oper)(g:Nat):Nat→List Oper→Sg→(Sg→Option AV)→Option AV
 |_,[],p,k=>k p
 |i,o::r,p,k=>
  match xJ l T C (g+i) o p with
  |some d=>bif d.chk then aP l T ck C g (i+1) r (d.app p) k else none
  |none=>match PP l o p (g+i)with
   |some (b,out,j)=>bif b then aP l T ck C g (i+1) r ⟨uD p.env o.dst out,j⟩ k else none
   |none=>match cI o p.env with
    |some (f,args)=>ck.call f args p.heap (λres j=>aP l T ck C g (i+1) r ⟨uD p.env o.dst res,j⟩ k)
    |none=>none
def Fg (l:Tab)(T:Specs)(j:List Oper)(f:Nat):Nat→List Oper→Sg→Option (List Dl×List (Option Nat))
 |_,[],_=>some ([],[])
 |i,o::r,σ=>
  match xJ l T j (f+i) o σ with
  |some d=>match Fg l T j f (i+1) r (d.app σ)with
   |some (ds,ts)=>some (d::ds,(match gOf σ.env j o with|some g=>mw T o (f+i) g (dl σ.env o)|none=>none)::ts)
   |none=>none
  |none=>match r with
   |[]=>some ([],[])
   |_=>none
def aN:List Oper→List Nat→List Nat
 |[],acc=>acc
 |o::r,acc=>aN r (acc++[o.after.toList.foldl (λs e=>if Region.binds .any e then s ||| 2^e.on ||| acc.getD e.on 0 else s) 0])
def bU:Nat→List Oper→Bool
 |_,[]=>true
 |i,o::r=>o.after.toList.all (λe=>!Region.binds .any e||decide (e.on<i))&&bU (i+1) r
def eF (f:List Oper)(o:Oper):List Nat :=
 (o.op.operands.toList.filterMap λ|.tmp t=>some t|_=>none)++(match o.guard with|some (j,_)=>((f[j]?).bind (·.dst)).toList|none=>[])
def Kb (x y:Option Nat):Bool :=
 match x,y with
 |some a,some b=>a == b
 |_,_=>false
def apart (T:Specs)(f:List Oper)(j g:Oper)(p l:Option Nat):Bool :=
 !Kb j.dst g.dst&&(match j.dst with|some d=>!(eF f g).contains d|none=>true)&&(match g.dst with|some d=>!(eF f j).contains d|none=>true) &&
 (!Kb p l||(cW T j.op&&cW T g.op))
def fK (T:Specs)(f:List Oper)(r:List Nat)(g:List (Option Nat))(i j:Nat):Bool :=
 (r.getD j 0).testBit i||(match f[i]?,f[j]? with
  |some p,some l=>apart T f p l (g.getD i none) (g.getD j none)
  |_,_=>false)
def M7 (T:Specs)(f:List Oper)(g:List (Option Nat))(l:List Nat):Bool :=
 bU 0 f&&(List.range f.length).all (λj=>(List.range j).all λi=>
  if j<g.length then fK T f l g i j else(l.getD j 0).testBit i)
def ahH (k:Sg→Option AV):Sg→Option AV:=λf=>k ⟨f.env.map clr,f.heap⟩
def wo (j:Tab)(T:Specs)(ck:Callk)(f:List Oper)(l:Bool)(g:Sg)(k:Sg→Option AV):Option AV :=
 match l with
 |false=>aP j T ck f g.heap.length 0 f ⟨g.env,g.heap++List.replicate f.length .none⟩ (ahH k)
 |true=>match Fg j T f g.heap.length 0 f ⟨g.env,g.heap++List.replicate f.length .none⟩with
  |some (_,ts)=>if M7 T f ts (aN f [])then aP j T ck f g.heap.length 0 f ⟨g.env,g.heap++List.replicate f.length .none⟩ (ahH k)else none
  |none=>none
inductive MK where
 |dat (t:Ty)|own (t:Ty) (e:TypeId)|mut (t:Ty) (e:TypeId)|keep|drop
structure MS where
 h0:Nat
 pre:List (Nat×List MK)
 env:List (Nat×MK)
def AV.under (n:Nat):AV→Bool
 |.box k _=>decide (k<n)
 |.own k _ _ _=>decide (k<n)
 |.msl k _ _ _=>decide (k<n)
 |.mpt k _ _ _=>decide (k<n)
 |.yld k=>decide (k<n)
 |.fn _ c=>c.under n
 |.agg p=>p.under n
 |.tup p=>p.under n
 |.pcons a b=>a.under n&&b.under n
 |.cond _ a=>a.under n
 |_=>true
inductive LE where
 |own (t:Ty) (e:TypeId)
 |mut (t:Ty) (e:TypeId) (ko:Option (Nat×Nat)) (l:List t.den)
 |frz (t:Ty) (e:TypeId) (ko:Option (Nat×Nat)) (l:List t.den)
def LE.ho:LE→HO
 |.own t e=>.row t e 0
 |.mut t e _ l=>.mrow t e 0 l
 |.frz _ _ _ _=>.dead
def afe (k v:Nat):Option (Nat×Nat)→Bool
 |some (k',v')=>Nat.beq k k'&&Nat.beq v v'
 |none=>false
def Bl (t:Ty)(k v:Nat):Nat→List LE→Option Nat
 |_,[]=>none
 |i,.mut t' _ ko _::r=>if afe k v ko&&decide (t'=t)then some i else Bl t k v (i+1) r
 |i,_::r=>Bl t k v (i+1) r
def Bn (t:Ty)(k v:Nat):List LE→Option (List t.den)
 |[]=>none
 |.frz t' _ ko l::r=>if afe k v ko then match cast? (.slice t') (.slice t) l with|some l=>some l|none=>none else Bn t k v r
 |_::r=>Bn t k v r
def conv (f:Nat):MK→AV→List HO→List LE→Option (AV×List HO×List LE)
 |.dat t,.msl k v j C,H,L=>match t with
  |.slice g=>match Bn g k v L with
   |some l=>some (.val (.slice g) ((l.take C).drop j),H,L)
   |none=>match H[k]? with
    |some (.mrow τ' e v' l)=>if v'=v then match cast? (.slice τ') (.slice g) l with
      |some l=>some (.val (.slice g) ((l.take C).drop j),H.set k .dead,L++[.frz g e (some (k,v)) l])
      |none=>none
     else none
    |_=>none
  |_=>none
 |.dat t,a,H,L=>match dat? t a with
  |some x=>some (.val t x,H,L)
  |none=>none
 |.own t e,.own k v p l,H,L=>match H[k]? with
  |some (.row t2 e2 v2)=>if t2=p then if e2=e then if v2=v then match cast? (.slice p) (.slice t) l with
    |some l=>some (.own (f+L.length) 0 t l,H.set k (.row t2 e2 (v2+1)),L++[.own t e])
    |none=>none
   else none else none else none
  |_=>none
 |.own t e,.nil,H,L=>some (.own (f+L.length) 0 t [],H,L++[.own t e])
 |.mut t e,.msl k v j C,H,L=>match Bl t k v 0 L with
  |some i=>some (.msl (f+i) 0 j C,H,L)
  |none=>match H[k]? with
   |some (.mrow t2 e2 v2 l)=>if e2=e then if v2=v then match cast? (.slice t2) (.slice t) l with
     |some l=>some (.msl (f+L.length) 0 j C,H.set k .dead,L++[.mut t e (some (k,v)) l])
     |none=>none
    else none else none
   |_=>none
 |.mut t e,.nil,H,L=>some (.msl (f+L.length) 0 0 0,H,L++[.mut t e none []])
 |.keep,a,H,L=>if a.under f then some (a,H,L)else none
 |.drop,_,H,L=>some (.unk,H,L)
 |_,_,_,_=>none
def WD (f:Nat):List MK→List AV→List HO→List LE→Option (List AV×List HO×List LE)
 |[],[],H,L=>some ([],H,L)
 |m::ms,a::as,H,L=>match conv f m a H L with
  |some (g,H,L)=>match WD f ms as H L with
   |some (as',H,L)=>some (g::as',H,L)
   |none=>none
  |none=>none
 |_,_,_,_=>none
def EN (f:Nat)(env:List AV):List (Nat×MK)→List AV→List HO→List LE→Option (List AV×List HO×List LE)
 |[],acc,H,L=>some (acc,H,L)
 |(s,m)::r,acc,H,L=>match conv f m (env.getD s .unk) H L with
  |some (a,H,L)=>EN f env r (acc.set s a) H L
  |none=>none
def EM (f:Nat):List (Nat×List MK)→List HO→List LE→Option (List (Nat×List AV)×List HO×List LE)
 |[],H,L=>some ([],H,L)
 |(k,ms)::r,H,L=>match H[k]? with
  |some (.box cells)=>match WD f ms cells H L with
   |some (cells',H,L)=>match EM f r H L with
    |some (b,H,L)=>some ((k,cells')::b,H,L)
    |none=>none
   |none=>none
  |_=>none
def HO.under (n:Nat):HO→Bool
 |.box cells=>cells.all (AV.under n)
 |_=>true
def eS:List (Nat×List AV)→List HO→List HO
 |[],H=>H
 |(k,cells)::r,H=>eS r (H.set k (.box cells))
def Ap (g:Nat)(f:List Nat):Nat→List HO→Bool
 |_,[]=>true
 |i,ho::r=>(f.contains i||ho.under g)&&Ap g f (i+1) r
def GO:List Nat→Bool
 |[]=>true
 |a::l=>!l.contains a&&GO l
def ae3 (g:Nat)(m:MS)(f:Sg):Option Sg :=
 if decide (g≤m.h0)&&decide (m.h0≤f.heap.length)&&GO (m.pre.map (·.1))&&m.pre.all (λp=>decide (p.1<m.h0))&&Ap m.h0 (m.pre.map (·.1)) 0 (f.heap.take m.h0)then
  match EM m.h0 m.pre f.heap []with
  |some (j,H,L)=>match EN m.h0 f.env m.env (List.replicate f.env.length .unk) H L with
   |some (env,H,L)=>some ⟨env,eS j (H.take m.h0)++L.map LE.ho⟩
   |none=>none
  |none=>none
 else none
inductive Ex where
 |normal|exit (id:Nat)|ret
abbrev KT:=Ex→Sg→Option AV
structure Par where
 tab:Tab
 T:Specs
 joins:Nat→Nat→Option MS
 loops:Nat→Nat→Option MS
def td:Code→Option Nat
 |.region id _ _=>some id
 |.seq a b=>match td a with|some i=>some i|none=>td b
 |.cond _ a b=>match td a with|some i=>some i|none=>td b
 |.block _ c=>td c
 |.loop c=>td c
 |.scope c=>td c
 |_=>none
def G1 (j:Nat)(m:Option MS)(g:Sg)(k:Sg→Option AV):Option AV :=
 match m with
 |none=>k g
 |some m=>match ae3 j m g with
  |some f=>k f
  |none=>none
def aL (j:Nat)(m:Option MS)(l:Sg→KT→Option AV)(k:KT):KT:=λe g=>
 match e with
 |.normal=>G1 j m g λf=>l f k
 |e=>k e g
def aj (id:Nat)(k:KT):KT:=λe g=>
 match e with
 |.exit f=>match Nat.beq f id with
  |true=>k .normal g
  |false=>k (.exit f) g
 |e=>k e g
def V6 (j:Nat)(m:MS)(f:Sg→Option AV)(k:KT):KT:=λe g=>
 match e with
 |.normal=>G1 j (some m) g f
 |e=>k e g
def aE (g:Nat)(m:MS)(f:Sg→KT→Option AV)(k:KT):Nat→Sg→Option AV
 |0,_=>none
 |n+1,σ=>f σ (V6 g m (aE g m f k n) k)
def ahI (f:Sg→Option AV)(k:KT):KT:=λe g=>
 match e with
 |.normal=>f g
 |e=>k e g
def qW (f:Sg→KT→Option AV)(k:KT):Nat→Sg→Option AV
 |0,_=>none
 |n+1,σ=>f σ (ahI (qW f k n) k)
def ca:Code→Bool
 |.region _ f _=>f.toList.all λo=>match o.op with|.defer _=>false|_=>true
 |.seq a b=>ca a&&ca b
 |.cond _ a b=>ca a&&ca b
 |.block _ a=>ca a
 |.loop a=>ca a
 |.scope a=>ca a
 |.rangeFunc _ _ a b=>ca a&&ca b
 |_=>true
def zL:List Nat→List AV→List AV→Option (List AV)
 |[],[],env=>some env
 |t::ts,a::as,env=>zL ts as (env.set t a)
 |_,_,_=>none
def ahG (g:AV→List HO→Option AV):KT:=λe f=>
 match e with
 |.normal=>g (.val .bool true) f.heap
 |_=>none
def LT (j:Nat)(call:Ck)(env:List AV)(ps:List Nat)(l:Nat→Sg→KT→Option AV):Yk:=λr args f p=>
 match Nat.beq r j with
 |true=>match zL ps args env with
  |some g=>l f.length ⟨g,f⟩ (ahG p)
  |none=>none
 |false=>call (.yld r) args f p
def exec (ck:Callk)(S:Par):Nat→Nat→Code→Sg→KT→Option AV
 |_,_,.skip,g,k=>k .normal g
 |_,_,.label _,g,k=>k .normal g
 |_,_,.region _ p l,g,k=>wo S.tab S.T ck p.toList l g (k .normal)
 |j,f,.seq a b,g,k=>exec ck S j f a g (aL j ((td b).bind (S.joins j)) (λg k=>exec ck S j f b g k) k)
 |j,f,.cond c a b,g,k=>match Ti g.env c with
  |.val .bool x=>bif x then exec ck S j f a g k else exec ck S j f b g k
  |_=>none
 |j,f,.block id c,g,k=>exec ck S j f c g (aj id k)
 |j,f,.loop c,g,k=>match (td c).bind (S.loops j)with
  |some m=>G1 j (some m) g (aE j m (λg k=>exec ck S j f c g k) k f)
  |none=>qW (λg k=>exec ck S j f c g k) k f g
 |_,_,.exit id,g,k=>k (.exit id) g
 |_,_,.ret,g,k=>k .ret g
 |_,_,_,_,_=>none
def zW (j:Tab)(l:Sg):ResultVar→Option AV
 |.tmp t=>match l.env.getD t .unk with
  |.cond _ _=>none
  |a=>some a
 |.cell t p=>match l.env.getD t .unk with
  |.box k f=>match l.heap.getD k .none,j.ty p with
   |.box cells,some g=>match asm g ((cells.drop f).take g.size)with
    |some x=>some (.val g x)
    |none=>if g.isStruct&&aex (j.one p) ((cells.drop f).take g.size)then some (.agg (cm ((cells.drop f).take g.size)))else none
   |_,_=>none
  |_=>none
def eD (f:Tab)(g:Sg):List ResultVar→Option (List AV)
 |[]=>some []
 |r::l=>match zW f g r,eD f g l with
  |some a,some j=>some (a::j)
  |_,_=>none
def oY:List AV→AV
 |[a]=>a
 |l=>.tup (cm l)
def ajc (f:Tab)(j:List ResultVar)(k:AV→List HO→Option AV):KT:=λe g=>
 match e with
 |.exit _=>none
 |_=>match eD f g j with
  |some l=>k (oY l) g.heap
  |none=>none
def Gz (f:List HO)(t:Ty)(a:AV):Option t.den :=
 match a with
 |.msl k v j C=>match t with
  |.slice g=>match f[k]? with
   |some (.mrow τ' _ v' l)=>if v'=v then match cast? (.slice τ') (.slice g) l with
     |some l=>some ((l.take C).drop j)
     |none=>none
    else none
   |_=>none
  |_=>none
 |a=>one? t a
def ZE (f:List HO):(t:Ty)→List AV→Option t.den
 |.unit,[]=>some ()
 |.cons a b,l=>match ZE f a (l.take a.size),ZE f b (l.drop a.size)with|some x,some y=>some (x,y)|_,_=>none
 |.tree,[a,b,c,d]=>match Gz f (.int .i64) a,Gz f .str b,Gz f (.slice .str) c,Gz f (.slice .tree) d with
  |some k,some t,some g,some j=>some (Tree.mk k t g j)
  |_,_,_,_=>none
 |.int k,[a]=>Gz f (.int k) a
 |.bool,[a]=>Gz f .bool a
 |.str,[a]=>Gz f .str a
 |.slice t,[a]=>Gz f (.slice t) a
 |_,_=>none
def afF (f:List HO)(t:Ty)(a:AV):Option t.den :=
 match a with
 |.agg p=>if t.isStruct then ZE f t p.parts else none
 |a=>Gz f t a
def acJ (f:List HO):List Ty→List AV→Option (List AV)
 |[],[]=>some []
 |t::ts,a::l=>match afF f t a,acJ f ts l with
  |some x,some r=>some (.val t x::r)
  |_,_=>none
 |_,_=>none
def bg (g:Tab)(p:List ResultVar)(f:List Ty):KT:=λe j=>
 match e with
 |.exit _=>none
 |_=>match eD g j p with
  |some l=>match acJ j.heap f l with
   |some l=>some (oY l)
   |none=>none
  |none=>none
structure Fi where
 S:Par
 ntmps:Nat
 results:List ResultVar
 code:Code
abbrev Hs:=FuncId→List AV→List HO→Option (Bool×AV×List HO)
def hs0:Hs:=λ_ _ _=>none
def I1 (call:Yk→Ck)(f:Yk):Callk:=⟨call f,call⟩
def uO (C:FuncId→Option Fi)(r:Hs)(l:Nat):Nat→Yk→Ck
 |_,p,.yld j,args,g,k=>p j args g k
 |0,_,.fn _,_,_,_=>none
 |d+1,p,.fn f,args,g,k=>match r f args g with
  |some (b,out,heap')=>bif b then k out heap' else none
  |none=>match C f with
   |some x=>exec (I1 (uO C r l d) p) x.S g.length l x.code ⟨args++List.replicate (x.ntmps-args.length) .unk,g⟩ (ajc x.S.tab x.results k)
   |none=>none
def noY:Yk:=λ_ _ _ _=>none
abbrev bn (j:FuncId→Option Fi)(g:Hs)(f d:Nat):Callk:=I1 (uO j g f d) noY
def mkE (n:Nat)(l:List (Nat×AV)):List AV:=l.foldl (λe p=>e.set p.1 p.2) (List.replicate n .unk)
def mkH (n:Nat)(l:List (Nat×HO)):List HO:=l.foldl (λe p=>e.set p.1 p.2) (List.replicate n .none)
def sub:Code→List Nat→Code
 |.seq a _,0::r=>sub a r
 |.seq _ b,1::r=>sub b r
 |.cond _ a _,0::r=>sub a r
 |.cond _ _ b,1::r=>sub b r
 |.block _ c,0::r=>sub c r
 |.loop c,0::r=>sub c r
 |.rangeFunc _ _ _ c,0::r=>sub c r
 |.rangeFunc _ _ c _,1::r=>sub c r
 |c,_=>c
abbrev w64 (n:Int):Int:=IntKind.i64.wrap n
abbrev ix (t:Ty)(l:List t.den)(i:Int):t.den:=l.getD i.toNat (zero t)
abbrev ixs (l:Str)(i:Int):Int:=((l.getD i.toNat 0).toNat:Int)
def uv (l:FuncId→Option Fi)(j:Hs)(d:Nat)(x:Fi)(g:List Ty)(f:Nat)(args:List AV):Option AV :=
 match args.all AV.nojk with
 |true=>exec (bn l j f d) x.S 0 f x.code ⟨args++List.replicate (x.ntmps-args.length) .unk,[]⟩ (bg x.S.tab x.results g)
 |false=>none
def RepVs (w:World)(St:Sb):List ((t:Ty)×t.den)→List Value→Prop
 |[],[]=>True
 |d::l,v::vs=>RepV w St d.1 d.2 v∧RepVs w St l vs
 |_,_=>False
def Iu:List AV→List ((t:Ty)×t.den)→Prop
 |[],[]=>True
 |a::l,d::r=>dat? d.1 a=some d.2∧Iu l r
 |_,_=>False
def cj (P:Program)(f:FuncId):Prop:=∃fn,P.funcs[f]? = some fn∧fn.body.isSome=true∧(fn.name == "runtime.NumGoroutine")=false
def aY (w:World)(St:Sb):Gh:=⟨[],St,λ_=>0,λ_=>undef,w,λ_=>0⟩
def UX (w:World)(St:Sb)(res:AV):Ending→World→Prop:=λe f=>
 ∃v St',e = .returned v∧Below w.heap.size w f∧dz w≤dz f∧St.le St'∧(∀b o,St' b o→St b o∨(w.heap.size≤b∧b<f.heap.size))∧(∀b e cap n,St'.j b e cap n→St.j b e cap n∨NJ w.heap.size f St' b e cap n)∧RA (aY f St') res [v]
def MeetsD (P:Program)(f:FuncId)(j:List ((t:Ty)×t.den))(res:AV):Prop :=
 cj P f∧∀w St,(∀b o,St b o→b<w.heap.size)→∀g,RepVs w St j g→Calls P f g.toArray w (UX w St res)
def Is (P:Program)(f:FuncId)(args:List AV)(res:AV):Prop :=
 ∃R:World→Sb→List Value→Prop,(∀c g,RAs c args g→R c.w c.St g)∧cj P f∧∀w St,(∀b o,St b o→b<w.heap.size)→∀g,R w St g→Calls P f g.toArray w (UX w St res)
def ais (P:Program)(f:FuncId)(t:Ty)(e:TypeId)(args:List AV)(C:List t.den):Prop :=
 cj P f∧∀(B:Bd) (j:World) (U:Sb) (c:Gh),Inv B j U c→∀(k v:Nat),c.heap[k]? = some (.row t e v)→∀l,RAs c args l →
  Calls P f l.toArray c.w λJ p=>∃r g,J = .returned r∧g.heap=c.heap.set k (.row t e (v+1))∧g.w=p∧Inv B j U g∧Ev c g∧RA g (.own k (v+1) t C) [r]
structure SpecsOk (P:Program)(T:Specs):Prop where
 call:∀f args res,T.call f args=some (true,res)→Is P f args res
 nw:∀f q,T.nw f=some q→∀args l',q.F args=some (true,l')→ais P f q.t q.e args l'
section
variable {P:Program}{tab:Tab}{T:Specs}{B:Bd}{w0:World}{U:Sb}{c:Gh}{o:Oper}{a:Act}
def RAs.dat:∀{g:List AV} {f:List Value} {j:List ((t:Ty)×t.den)},Iu g j→RAs c g f→RepVs c.w c.St j f
 |[],[],[],_,_=>trivial
 |_::_,_::_,_::_,⟨h,p⟩,⟨r,l⟩=>⟨dat?_sound h r,RAs.dat p l⟩
 |[],[],_::_,h,_=>h.elim
 |_::_,_::_,[],h,_=>h.elim
variable{f:FuncId}{args us J:List AV}{res:AV}{cl:Call}{x:Operand}{fresh:Nat}{v:Value}{g:Bool}
def lR {ds:List ((t:Ty)×t.den)}(l:Iu args ds)(g:MeetsD P f ds res):Is P f args res :=
 ⟨λw St j=>RepVs w St ds j,λ_ _ h=>h.dat l,g.1,g.2⟩
def QW {c':Gh}{St:Sb}(f:St.le c'.St):Ev (aY c'.w St) c' :=
 ⟨f,λ_ _ _ _ h=>h,λk cells h=>by simp[aY]at h,λk t e v h=>by simp[aY]at h,λk t e v l h=>by simp[aY]at h,λk h=>by simp[aY]at h,λk h=>by simp[aY]at h⟩
def aeO (C:Inv B w0 U c)(ho:o.op = .call cl)(hcl:cl.callee = .value x)(hx:RA c (.fn f .pnil) [a.eval x])(hargs:RAs c args (cl.args.toList.map a.eval))(hm:Is P f args res) :
  Ok P B w0 U o a c c.heap res:=by
 obtain⟨R,hR,⟨fn,f1,f2,f3⟩,hm⟩:=hm;obtain⟨cs,e,hcs,_⟩:=hx;have hcs:cs=[]:=hcs;subst hcs;simp at e;have hbody:¬fn.body=none:=by cases hb:fn.body <;> simp_all
 have f3:¬fn.name = "runtime.NumGoroutine":=by simpa using f3
 have hrun:(execOp a.eval o).run P c.w = .ok (.enter f (cl.args.toList.map a.eval).toArray) c.w:=by have e2:cl.args.map a.eval=(cl.args.toList.map a.eval).toArray:=B_ Ψ;unfold execOp;simp[ho,resolve,hcl,e,Deferred.ofValue,invoke,callFunc,g?,f1,f3,hbody,e2]
 intro K Q h;unfold Oper.wp;rw[hrun];refine(hm c.w c.St C.bnd _ (hR c _ hargs)).mono ?_;rintro _ w' ⟨v,St',rfl,hb,hdr,hs,hn,hj,hr⟩;obtain⟨hI,hE⟩:=C.grow hb hs hn hdr hj;exact h v { c with w:=w',St:=St' } rfl hI hE (hr.mono (QW (c':={ c with w:=w',St:=St' }) (Sb.le.refl _)))
def ahh (C:Inv B w0 U c)(ho:o.op = .call cl)(hcl:cl.callee = .value x){t:Ty}{e:TypeId}{l':List t.den}(hx:RA c (.fn f .pnil) [a.eval x])(hargs:RAs c args (cl.args.toList.map a.eval))(hf:c.heap[fresh]? = some .none)(hm:ais P f t e args l') :
  Ok P B w0 U o a c (c.heap.set fresh (.row t e 1)) (.own fresh 1 t l'):=by
 obtain⟨⟨fn,f1,f2,f3⟩,hm⟩:=hm;obtain⟨cs,ee,hcs,_⟩:=hx;have hcs:cs=[]:=hcs;subst hcs;simp at ee;have hbody:¬fn.body=none:=by cases hb:fn.body <;> simp_all
 have f3:¬fn.name = "runtime.NumGoroutine":=by simpa using f3
 have hrun:(execOp a.eval o).run P c.w = .ok (.enter f (cl.args.toList.map a.eval).toArray) c.w:=by have e2:cl.args.map a.eval=(cl.args.toList.map a.eval).toArray:=B_ Ψ;unfold execOp;simp[ho,resolve,hcl,ee,Deferred.ofValue,invoke,callFunc,g?,f1,f3,hbody,e2]
 intro K Q h;unfold Oper.wp;rw[hrun];obtain⟨hI,hE⟩:=C.addRow (k:=fresh) (n:=0) (t:=t) (e:=e) (s :=.slice none 0 0) (xs:=[]) hf (c? _ _ _ _) (λb hb=>by simp[Value.ownBlock]at hb) (λk' b hb=>by simp[Value.ownBlock]at hb) (λb hb=>by simp[Value.ownBlock]at hb) (λb hb=>by simp[Value.ownBlock]at hb);have hk:(c.heap.set fresh (.row t e 0))[fresh]? = some (.row t e 0):=by rw[get_set,q' rfl,q' (au hf)]
 refine(hm B w0 U _ hI fresh 0 hk _ (hargs.mono hE)).mono ?_;rintro _ w' ⟨r,c',rfl,hh,rfl,hI',hE',hr'⟩;exact h r c' (by rw[hh];simp) hI' (hE.trans hE') hr'
def agj (h:RAs c us []):us=[]:=by cases us with|nil=>rfl|cons _ _=>exact h.elim
def dh (h:RAs c us [v]):∃u,us=[u]∧RA c u [v]:=by
 match us,h with
 |[u],⟨r,_⟩=>exact⟨u,rfl,r⟩
 |_::_::_,⟨_,h⟩=>exact h.elim
def vJ {vs:List Value}(h:RAs c us (v::vs)):∃u r,us=u::r∧RA c u [v]∧RAs c r vs:=by
 match us,h with
 |u::r,⟨g,f⟩=>exact⟨u,r,rfl,g,f⟩
def gx {v' :Value}(h:RAs c us [v,v']):∃u f,us=[u,f]∧RA c u [v]∧RA c f [v']:=by obtain⟨u,r,rfl,l,j⟩:=vJ h;obtain⟨f,rfl,g⟩:=dh j;exact⟨u,f,rfl,l,g⟩
def ZL {v' v'' :Value}(h:RAs c us [v,v',v'']):∃u g f,us=[u,g,f]∧RA c u [v]∧RA c g [v']∧RA c f [v'']:=by obtain⟨u,r,rfl,C,p⟩:=vJ h;obtain⟨g,f,rfl,l,j⟩:=gx p;exact⟨u,g,f,rfl,C,l,j⟩
def qt {f:Type}{l:List f}{k:Nat}{x:f}(h:l[k]? = some x):l.set k x=l:=by
 apply p?;intro i;rw[get_set];split
 next e=>subst e;rw[q' (au h),h]
 ·rfl
def aR (T:Specs)(op:Op)(J:List AV)(fresh:Nat)(f:List HO)(g:HO):List HO :=
 match cg T op J fresh with
 |some k=>f.set k g
 |none=>f
def pe {u:AV}{n:Int}(h:Hm u=some n)(r:RA c u [v]):∃k,v = .int k n:=by
 cases u with
 |val t x=>
  cases t with
  |int k =>cases h;exact⟨k,eE r.val_inv⟩
  |_=>simp[Hm]at h
 |_=>simp[Hm]at h
def BV {g f:Option Operand}{r:List AV}{P C:Option Int}(h:CZ g f r=some (P,C))(p:RAs c r ((g.toList++f.toList).map a.eval)):I3 (g.map a.eval) P∧I3 (f.map a.eval) C:=by
 cases g with
 |none=>
  cases f with
  |none =>have:=agj p;subst this;cases h;exact⟨aoG,aoG⟩
  |some y=>
   obtain⟨u,rfl,j⟩:=dh p;simp[CZ]at h;split at h
   next n l=>cases h;exact⟨aoG,pe l j⟩
   ·cases h
 |some x=>
  cases f with
  |none=>
   obtain⟨u,rfl,j⟩:=dh p;simp[CZ]at h;split at h
   next n l=>cases h;exact⟨pe l j,aoG⟩
   ·cases h
  |some y=>
   obtain⟨u,T,rfl,j,J⟩:=gx p;simp[CZ]at h;split at h
   next n m l R=>cases h;exact⟨pe l j,pe R J⟩
   ·cases h
def dx {op:Op}{f:List HO}{g:HO}(h:∀k,cg T op J fresh=some k→f[k]? = some g):aR T op J fresh f g=f:=by
 unfold aR;split
 next k hk=>exact qt (h k hk)
 ·rfl
set_option maxHeartbeats 1000000 in
def UA (tk:TabOk P tab)(ts:SpecsOk P T)(C:Inv B w0 U c)(hg:g=true)(hv:RAs c J (o.op.operands.toList.map a.eval)){ho:HO}
  (hho:∀k,cg T o.op J fresh=some k→c.heap[k]? = some ho) {out:AV} {ho':HO} (j:acu tab T o g J fresh ho=some (true,out,ho')):Ok P B w0 U o a c (aR T o.op J fresh c.heap ho') out:=by
 unfold acu at j;cases R:o.op with
 |move x =>simp[R,Op.operands]at j hv;obtain⟨u,rfl,hu⟩:=dh (v:=a.eval x) hv;split at j <;> simp only[θ,ο,reduceCtorEq]at j;rename_i hx;simp at hx;obtain⟨_,rfl,rfl⟩:=j;exact VE C (.inl R) (hx ▸ hu)
 |assign x =>simp[R,Op.operands]at j hv;obtain⟨u,rfl,hu⟩:=dh (v:=a.eval x) hv;split at j <;> simp only[θ,ο,reduceCtorEq]at j;rename_i hx;simp at hx;obtain⟨_,rfl,rfl⟩:=j;exact VE C (.inr R) (hx ▸ hu)
 |pick x y z=>
  simp only[R,Op.operands]at j hv;obtain⟨u,u',u'',rfl,h1,h2,h3⟩:=ZL (v:=a.eval x) (v':=a.eval y) (v'':=a.eval z) hv;split at j
  next cb p q hx=>
   simp only[c_,N_]at hx;obtain⟨rfl,rfl,rfl⟩:=hx;split at j
   ·rename_i t xx t' yy hp hq;split at j
    ·rename_i yy' hc;obtain⟨e,hyy⟩:=cast?_some hc;subst e;have hyy:yy'=yy:=hyy;subst hyy;simp only[θ,ο,ι]at j;obtain⟨⟨k1,k2⟩,rfl,rfl⟩:=j;refine Mo C R h1 (λhb=>?_) (λhb=>?_) hp hq
     ·exact xO h2 k1 (by simp[hg,hb])
     ·exact xO h3 k2 (by simp[hg,hb])
    ·cases j
   ·cases j
  ·cases j
 |alloc t=>
  simp only[R]at j hho;have hf:=hho fresh rfl;split at j
  ·split at j
   next τ ht=>simp only[θ,ο]at j;obtain⟨_,rfl,rfl⟩:=j;exact GE C tk R hf ht
   ·split at j
    next n ht=>simp only[θ,ο]at j;obtain⟨_,rfl,rfl⟩:=j;exact Mv C tk R hf ht
    ·cases j
  ·cases j
 |box t x=>
  simp only[R,Op.operands]at j hv hho;have hf:=hho fresh rfl;obtain⟨u,rfl,hu⟩:=dh (v:=a.eval x) hv;split at j
  next hx=>
   simp only[c_,N_]at hx;subst hx;split at j
   next hs=>simp only[θ,ο]at j;obtain⟨_,rfl,rfl⟩:=j;exact Tr C R hf hu hs
   ·cases j
  ·cases j
 |load t x=>
  simp only[R,Op.operands]at j hv hho;obtain⟨u,rfl,hu⟩:=dh (v:=a.eval x) hv;split at j
  next k off cells hx=>
   simp only[c_,N_]at hx;subst hx;have hk:c.heap[k]? = some (.box cells):=hho k rfl;have hsame:aR T (.load t x) [.box k off] fresh c.heap (.box cells)=c.heap:=by
    show c.heap.set k _=_;exact qt hk
   split at j
   ·rename_i τ ht;split at j
    ·rename_i hst;split at j
     ·rename_i h1;simp only[θ,ο]at j;obtain⟨_,rfl,rfl⟩:=j;rw[hsame];unfold aex at h1;split at h1
      next n hn=>simp only[ι]at h1;exact Pz C tk R hu hk ht hst hn (κ h1.1) h1.2
      ·cases h1
     ·split at j
      next y hy=>simp only[θ,ο]at j;obtain⟨_,rfl,rfl⟩:=j;rw[hsame];exact GB C tk R hu hk ht hy
      ·cases j
    ·rename_i hs;split at j
     next u' hu'=>simp only[θ,ο]at j;obtain⟨_,rfl,rfl⟩:=j;rw[hsame];obtain⟨i,z,_,_,_,_,_,_,hund⟩:=tk.ty t τ ht;obtain⟨d,hd,hn⟩:=Fe (by simpa using hs) hund;exact Aq C R hu hk hd hn hu'
     ·cases j
   ·rename_i ht;split at j
    ·rename_i hc;split at j
     next u' hu'=>simp only[θ,ο]at j;obtain⟨_,rfl,rfl⟩:=j;rw[hsame];obtain⟨i,z,d,_,_,_,_,hd,hn⟩:=tk.cells t 1 hc;exact Aq C R hu hk hd (hn ht rfl) hu'
     ·cases j
    ·cases j
  next τ y hx=>
   simp only[c_,N_]at hx;subst hx;split at j
   next ht=>simp only[θ,ο]at j;obtain⟨_,rfl,rfl⟩:=j;exact Py C tk R hu ht
   ·cases j
  ·cases j
 |store t x y=>
  simp only[R,Op.operands]at j hv hho;obtain⟨u,u',rfl,h1,h2⟩:=gx (v:=a.eval x) (v':=a.eval y) hv;split at j
  next k off v cells hx=>
   simp only[c_,N_]at hx;obtain⟨rfl,rfl⟩:=hx;have hk:c.heap[k]? = some (.box cells):=hho k rfl;split at j
   next hs=>simp only[ι,ρ]at hs;simp only[θ,ο]at j;obtain⟨_,rfl,rfl⟩:=j;exact GA C tk R h1 h2 hk hs.1.1 hs.1.2 hs.2
   ·cases j
  ·cases j
 |fieldAddr s x f=>
  simp only[R,Op.operands]at j hv;obtain⟨u,rfl,hu⟩:=dh (v:=a.eval x) hv;split at j
  next k off hx=>
   simp only[c_,N_]at hx;subst hx;split at j
   next d hd=>simp only[θ,ο]at j;obtain⟨_,rfl,rfl⟩:=j;exact Cw C tk R hu hd
   ·cases j
  next τ y hx=>
   simp only[c_,N_]at hx;subst hx;split at j
   ·rename_i ht;split at j
    next τ' y' hp=>simp only[θ,ο]at j;obtain⟨_,rfl,rfl⟩:=j;exact Cv C tk R hu ht hp
    ·cases j
   ·cases j
  ·cases j
 |field s x f=>
  simp only[R,Op.operands]at j hv;obtain⟨u,rfl,hu⟩:=dh (v:=a.eval x) hv;split at j
  next τ y hx=>
   simp only[c_,N_]at hx;subst hx;split at j
   ·rename_i ht;split at j
    next τ' y' hp=>simp only[θ,ο]at j;obtain⟨_,rfl,rfl⟩:=j;exact aba C tk R hu ht hp
    ·cases j
   ·cases j
  ·cases j
 |indexAddr t x y=>
  simp only[R,Op.operands]at j hv;obtain⟨u,u',rfl,h1,h2⟩:=gx (v:=a.eval x) (v':=a.eval y) hv;split at j
  next k off q n hx=>
   simp only[c_,N_]at hx;obtain⟨rfl,rfl⟩:=hx;split at j
   next m hm=>simp only[θ,ο,ι,ρ]at j;obtain⟨⟨k1,k2⟩,rfl,rfl⟩:=j;rw[dx (by simpa only[R]using hho)];exact Mr C tk R h1 h2 hm k1 k2
   ·cases j
  next s k n _ hx=>
   simp only[c_,N_]at hx;obtain⟨rfl,rfl⟩:=hx;split at j
   next τ l hl=>simp only[θ,ο,ι,ρ]at j;obtain⟨⟨k1,k2⟩,rfl,rfl⟩:=j;rw[dx (by simpa only[R]using hho)];exact Ms C tk R h1 h2 hl k1 k2
   ·cases j
  ·cases j
 |index t x y=>
  simp only[R,Op.operands]at j hv;obtain⟨u,u',rfl,h1,h2⟩:=gx (v:=a.eval x) (v':=a.eval y) hv;split at j
  next s k n hx=>
   simp only[c_,N_]at hx;obtain⟨rfl,rfl⟩:=hx;split at j
   next l hl=>simp only[θ,ο,ι,ρ]at j;obtain⟨⟨k1,k2⟩,rfl,rfl⟩:=j;exact Mq C tk R h1 h2 hl k1 k2
   ·cases j
  ·cases j
 |binOp op tx x y ty=>
  simp only[R,Op.operands]at j hv;obtain⟨u,u',rfl,h1,h2⟩:=gx (v:=a.eval x) (v':=a.eval y) hv;simp only at j;split at j
  next cb v hb=>
   simp only[θ,ο]at j;obtain⟨rfl,rfl,rfl⟩:=j;have hb':=hb;unfold vA at hb;split at hb
   ·split at hb
    ·simp only[θ,ο,ρ]at hb;obtain⟨hn,rfl⟩:=hb;exact(Pv C R h1 h2 hn).1 rfl
    ·simp only[θ,ο,ρ]at hb;obtain⟨hn,rfl⟩:=hb;exact(Pv C R h1 h2 hn).2 rfl
    ·split at hb
     next hk=>subst hk;exact Tt C R h1 h2 hb
     ·cases hb
   ·exact Ts C R h1 h2 hb'
   ·exact PC C tk R h1 h2 hb'
   ·exact IG C tk R h1 h2 hb'
   ·cases hb
  ·cases j
 |unOp op t x=>
  simp only[R,Op.operands]at j hv;obtain⟨u,rfl,hu⟩:=dh (v:=a.eval x) hv;cases op <;> simp only at j <;> first|(cases j;done)|skip
  all_goals split at j
  all_goals first|(cases j;done)|skip
  all_goals
   rename_i hx;simp only[c_,N_]at hx;subst hx;simp only[θ,ο]at j;obtain⟨_,rfl,rfl⟩:=j;exact ahg C R hu
 |convert s t x=>
  simp only[R,Op.operands]at j hv;obtain⟨u,rfl,hu⟩:=dh (v:=a.eval x) hv;split at j
  next k' n k τ hx ht hts=>
   simp only[c_,N_]at hx;subst hx;simp only[θ,ο]at j;obtain⟨_,rfl,rfl⟩:=j;obtain⟨i,z,hin,_⟩:=tk.ty s _ hts;refine PB C tk R hu ht ?_;obtain⟨_,_,_,_,_,_,_,_,hund⟩:=tk.ty s _ hts;cases hs:τ.isStruct with
   |true=>obtain⟨fs,hf,_⟩:=gC hs hund;exact⟨_,hf⟩
   |false=>obtain⟨d,hd,_⟩:=Fe hs hund;exact⟨_,hd⟩
  next x2 hx ht hts=>
   simp only[c_,N_]at hx;subst hx;split at j
   next l hl=>simp only[θ,ο]at j;obtain⟨_,rfl,rfl⟩:=j;exact ID C tk R hu hl ht hts
   ·cases j
  ·cases j
 |build t parts=>
  simp only[R,Op.operands]at j hv;split at j
  next τ ht=>
   split at j
   ·rename_i hs;split at j
    ·rename_i hc;unfold aiI at hc;split at hc
     next n hn=>simp only[ι,ρ,b_,ω]at hc;simp only[θ,ο]at j;obtain⟨_,rfl,rfl⟩:=j;exact IE C tk R hv ht hn hc.1.1 hc.1.2 hc.2
     ·cases hc
    ·split at j
     next y hy=>simp only[θ,ο]at j;obtain⟨_,rfl,rfl⟩:=j;exact At C tk R hv ht hs hy
     ·cases j
   ·cases j
  ·split at j
   ·rename_i n hn;split at j
    next hs=>simp only[ι]at hs;simp only[θ,ο]at j;obtain⟨_,rfl,rfl⟩:=j;exact Mu C tk R hv hn (κ hs.1.1) hs.1.2 hs.2
    ·cases j
   ·split at j
    ·rename_i n hn;split at j
     next hs=>simp only[ι]at hs;simp only[θ,ο]at j;obtain⟨_,rfl,rfl⟩:=j;exact Mt C tk R hv hn (κ hs.1.1) hs.1.2 hs.2
     ·cases j
    ·cases j
 |buildSlice t len parts=>
  simp only[R,Op.operands]at j hv hho;have hf:=hho fresh rfl;split at j
  next τ e ht hel=>
   split at j
   ·rename_i hs;simp only[ι,ρ]at hs;split at j
    ·rename_i l hl;split at j
     ·simp only[θ,ο]at j;obtain⟨_,rfl,rfl⟩:=j;exact IF C tk R hv ht hel hs.1.1 hs.1.2 hs.2 hl hf
     next hz=>simp only[θ,ο]at j;obtain⟨_,rfl,rfl⟩:=j;have h0:len=0:=κ (X?.1 hz).2;exact Ee C tk (by rw[R,h0]) (hs.1.1.symm.trans h0) ht hel hf
    ·cases j
   ·cases j
  ·cases j
 |slice t x low high mx=>
  cases mx with
  |some m=>simp[R]at j
  |none=>
   simp only[R,Op.operands]at j hv;obtain⟨s,r,rfl,h1,h2⟩:=vJ (v:=a.eval x) (vs:=(low.toList++high.toList).map a.eval) (by cases low <;> cases high <;> simpa using hv);simp only at j;split at j
   ·rename_i lo hi' hb;obtain⟨b1,b2⟩:=BV hb h2;split at j
    next τ l hl=>simp only[θ,ο]at j;obtain⟨k1,rfl,rfl⟩:=j;rw[dx (by simpa only[R]using hho)];exact aa7 C tk R h1 b1 b2 hl k1
    ·split at j
     next l hl=>simp only[θ,ο]at j;obtain⟨k1,rfl,rfl⟩:=j;rw[dx (by simpa only[R]using hho)];exact Mn C tk R h1 b1 b2 hl k1
     ·cases j
   ·cases j
 |extract x i=>
  simp only[R,Op.operands]at j hv;obtain⟨u,rfl,hu⟩:=dh (v:=a.eval x) hv;split at j
  next p hx=>
   simp only[c_,N_]at hx;subst hx;split at j
   next u' hp=>simp only[θ,ο]at j;obtain⟨_,rfl,rfl⟩:=j;exact Tp C R hu hp
   ·cases j
  ·cases j
 |call cl=>
  simp only[R,Op.operands]at j hv hho;cases hcl:cl.callee with
  |invoke r m=>simp[hcl]at j
  |value x=>
   simp only[hcl]at j;have hv:RAs c J (a.eval x::cl.args.toList.map a.eval):=by simpa[Call.operands,hcl]using hv
   obtain⟨u,r,rfl,h1,h2⟩:=vJ hv;split at j
   ·rename_i hnw;split at j
    ·rename_i f args hx;simp only[c_]at hx;obtain⟨rfl,rfl⟩:=hx;split at j
     ·rename_i q hq;split at j
      ·rename_i b l' hF;simp only[θ,ο]at j;obtain⟨rfl,rfl,rfl⟩:=j;have htch:cg T (.call cl) (.fn f .pnil::r) fresh=some fresh:=by simp only[cg,hcl,hnw]
       have hf:=hho fresh htch;have hh:∀y,aR T (.call cl) (.fn f .pnil::r) fresh c.heap y=c.heap.set fresh y:=λy=>by unfold aR;rw[htch]
       rw[hh];exact ahh C R hcl h1 h2 hf (ts.nw f _ hq r l' hF)
      ·cases j
     ·cases j
    ·cases j
   ·rename_i hnw;split at j
    ·rename_i f args hx;simp only[c_]at hx;obtain⟨rfl,rfl⟩:=hx;split at j
     ·rename_i b v hT;simp only[θ,ο]at j;obtain⟨rfl,rfl,rfl⟩:=j;have hm:=ts.call f r _ hT;have:aR T (.call cl) (.fn f .pnil::r) fresh c.heap ho=c.heap:=by
       have ht:cg T (.call cl) (.fn f .pnil::r) fresh=none:=by simp only[cg,hcl,hnw]
       simp only[aR,ht]
      rw[this];exact aeO C R hcl h1 h2 hm
     ·cases j
    ·cases j
  |builtin b=>
   simp only[hcl]at j;have hv:RAs c J (cl.args.toList.map a.eval):=by simpa[Call.operands,hcl]using hv
   cases b <;> simp only at j <;> first|(cases j;done)|skip
   case max=>
    have hh:aR T (.call cl) J fresh c.heap ho=c.heap:=dx hho;split at j
    ·rename_i k x k' y _;split at j
     ·rename_i hkk;subst hkk;simp only[θ,ο,true_and]at j;obtain⟨rfl,rfl⟩:=j;rw[hh];have hal:∃p q,cl.args = #[p,q]:=by
       have:=hv.length;simp at this;match h:cl.args.toList,(by simpa using this.symm:cl.args.toList.length=2)with
       |[p,q],_=>exact⟨p,q,B_ (by simpa using h)⟩
      obtain⟨p,q,hpq⟩:=hal;rw[hpq]at hv;obtain⟨u,u',e,h1,h2⟩:=gx (v:=a.eval p) (v':=a.eval q) hv;simp only[c_,N_]at e;obtain⟨rfl,rfl⟩:=e;have hpv:=eE h1.val_inv;have hqv:=eE h2.val_inv;refine aC C (v :=.int k (uQ x y)) ?_ (fJ _ _);unfold execOp;simp[R,resolve,hcl,hpq,invoke,builtin,Builtin.max_,Builtin.max2,hpv,hqv,uQ]
     ·cases j
    ·cases j
   case len=>
    have hh:aR T (.call cl) J fresh c.heap ho=c.heap:=dx hho;split at j
    ·rename_i s;have hal:∃x,cl.args = #[x]:=by
      have:=hv.length;simp at this;exact alD.1 this.symm
     obtain⟨x,hx⟩:=hal;rw[hx]at hv;obtain⟨u,e,hu⟩:=dh (v:=a.eval x) hv;simp only[c_,N_]at e;subst e;cases hty:cl.argTypes[0]? with
     |none =>rw[hty]at j;simp[zH,zE]at j
     |some t=>
      rw[hty]at j;simp only[Option.bind_some]at j;split at j
      next τ l hl=>simp only[θ,ο]at j;obtain⟨_,rfl,rfl⟩:=j;rw[hh];exact ahm C tk R hcl hx hty hu hl
      ·split at j
       next l hl=>simp only[θ,ο]at j;obtain⟨_,rfl,rfl⟩:=j;rw[hh];exact To C tk R hcl hx hty hu hl
       ·cases j
    ·cases j
   case append=>
    split at j
    ·rename_i s x t1 t2 htys _;have hty:cl.argTypes = #[t1,t2]:=B_ (by simpa using htys);have hal:∃p q,cl.args = #[p,q]:=by
      have:=hv.length;simp at this;match h:cl.args.toList,(by simpa using this.symm:cl.args.toList.length=2)with
      |[p,q],_=>exact⟨p,q,B_ (by simpa using h)⟩
     obtain⟨p,q,hpq⟩:=hal;rw[hpq]at hv;obtain⟨u,u',e,h1,h2⟩:=gx (v:=a.eval p) (v':=a.eval q) hv;simp only[c_,N_]at e;obtain⟨rfl,rfl⟩:=e;split at j
     ·rename_i e12;subst e12;split at j
      ·rename_i e τ l' hel hl;split at j
       ·rename_i k v t l _;split at j
        ·rename_i t' e' v';split at j
         ·rename_i q1;split at j
          ·rename_i q2;split at j
           ·rename_i q3;split at j
            ·rename_i l2 hc;obtain⟨et,hl2⟩:=cast?_some hc;injection et with et;subst et;have hl2:l2=l:=hl2;subst hl2;subst q1;subst q2;subst q3;simp only[θ,ο,ρ]at j;obtain⟨k1,rfl,rfl⟩:=j;have htch:cg T (.call cl) [.own k v' t' l2,x] fresh=some k:=by simp only[cg,hcl]
             have hk:=hho k htch;have hh:aR T (.call cl) [.own k v' t' l2,x] fresh c.heap (.row t' e' (v'+1))=c.heap.set k (.row t' e' (v'+1)):=by unfold aR;rw[htch]
             rw[hh];exact Yb C tk R hcl hpq hty h1 h2 hl hel hk k1
            ·cases j
           ·cases j
          ·cases j
         ·cases j
        ·cases j
       ·split at j
        ·split at j
         ·simp only[θ,ο,ρ]at j;obtain⟨k1,rfl,rfl⟩:=j;have htch:cg T (.call cl) [.nil,x] fresh=some fresh:=by simp only[cg,hcl]
          have hf:=hho fresh htch;have hh:aR T (.call cl) [.nil,x] fresh c.heap (.row τ e 1)=c.heap.set fresh (.row τ e 1):=by unfold aR;rw[htch]
          rw[hh];exact IH C tk R hcl hpq hty h1 h2 hl hel hf k1
         ·rename_i l2 _ _ _;simp only[θ,ο,ρ]at j;obtain⟨k1,rfl,rfl⟩:=j;have htch:cg T (.call cl) [.nil,x] fresh=some fresh:=by simp only[cg,hcl]
          have hf:=hho fresh htch;have hh:∀y,aR T (.call cl) [.nil,x] fresh c.heap y=c.heap.set fresh y:=λy=>by unfold aR;rw[htch]
          rw[hh];exact GD C tk R hcl hpq hty h1 h2 hl hel hf k1
        ·cases j
       ·cases j
      ·cases j
     ·cases j
    ·cases j
 |_=>simp[R]at j
def Uy (tk:TabOk P tab)(C:Inv B w0 U c)(hv:RAs c J (o.op.operands.toList.map a.eval)){ho:HO}
  (R:∀k,cg T o.op J fresh=some k→c.heap[k]? = some ho) {out:AV} {ho':HO} (g:act tab o J ho=some (true,out,ho')):Ok P B w0 U o a c (aR T o.op J fresh c.heap ho') out:=by
 unfold act at g;split at g
 next τ e v' l=>
  have j:∀k,cg T o.op J fresh=some k→aR T o.op J fresh c.heap (.mrow τ e v' l)=c.heap:=λk hk=>by
   unfold aR;rw[hk];exact qt (R k hk)
  have after:∀k ho',cg T o.op J fresh=some k→aR T o.op J fresh c.heap ho'=c.heap.set k ho':=λk ho' hk=>by unfold aR;rw[hk]
  split at g
  next t x y hop=>
   rw[hop]at hv R j;split at g
   ·rename_i k v lo hi' q n;obtain⟨u,u',e1,h1,h2⟩:=gx (v:=a.eval x) (v':=a.eval y) hv;cases e1;split at g
    ·rename_i q1;subst q1;split at g
     ·rename_i q2;split at g
      ·simp at g;obtain⟨⟨k1,k2⟩,rfl,rfl⟩:=g;rw[hop,j k rfl];exact Tm C tk hop h1 h2 (R k rfl) q2 k1 k2
      ·cases g
     ·cases g
    ·cases g
   ·cases g
  next s x f hop=>
   rw[hop]at hv R j;split at g
   ·rename_i k v i off;obtain⟨u,e1,h1⟩:=dh (v:=a.eval x) hv;cases e1;split at g
    ·rename_i q1;subst q1;split at g
     next d hd=>cases g;rw[hop,j k rfl];exact Tn C tk hop h1 (R k rfl) hd
     ·cases g
    ·cases g
   ·cases g
  next t x hop=>
   rw[hop]at hv R j;split at g
   ·rename_i k v i off;obtain⟨u,e1,h1⟩:=dh (v:=a.eval x) hv;cases e1;split at g
    ·rename_i q1;subst q1;split at g
     ·rename_i τ' ht;split at g
      next y hy=>cases g;rw[hop,j k rfl];exact Ya C tk hop h1 (R k rfl) ht hy
      ·cases g
     ·cases g
    ·cases g
   ·cases g
  next t x y hop=>
   rw[hop]at hv R after;split at g
   ·rename_i k v i off u;obtain⟨u1,u2,e1,h1,h2⟩:=gx (v:=a.eval x) (v':=a.eval y) hv;cases e1;split at g
    ·rename_i q1;subst q1;split at g
     ·rename_i τ' ht;split at g
      ·rename_i d hd;split at g
       next z hz=>cases g;rw[hop,after k _ rfl];exact Tk C tk hop h1 h2 (R k rfl) ht hd hz
       ·cases g
      ·cases g
     ·cases g
    ·cases g
   ·cases g
  next t x low high hop=>
   rw[hop]at hv R j;split at g
   ·rename_i k v lo hi' r;obtain⟨s,r',e1,h1,h2⟩:=vJ (v:=a.eval x) (vs:=(low.toList++high.toList).map a.eval) (by cases low <;> cases high <;> simpa[Op.operands]using hv);cases e1;split at g
    ·rename_i q1;subst q1;split at g
     ·rename_i q2;split at g
      ·split at g
       next a1 b1 hb=>obtain⟨g1,g2⟩:=BV hb h2;simp at g;obtain⟨k1,rfl,rfl⟩:=g;rw[hop,j k rfl];exact Tl C tk hop h1 (R k rfl) q2 g1 g2 k1
       ·cases g
      ·cases g
     ·cases g
    ·cases g
   ·cases g
  next cl hop=>
   rw[hop]at hv R j after;split at g
   ·rename_i hcl;replace hv:RAs c J (cl.args.toList.map a.eval):=by simpa[Op.operands,Call.operands,hcl]using hv
    split at g
    ·rename_i k v lo hi';have hal:∃x,cl.args = #[x]:=by
      have:=hv.length;simp at this;exact alD.1 this.symm
     obtain⟨x,hx⟩:=hal;rw[hx]at hv;obtain⟨u,e1,hu⟩:=dh (v:=a.eval x) hv;cases e1;have htch:cg T (.call cl) [.msl k v lo hi'] fresh=some k:=by simp[cg,hcl]
     split at g
     ·rename_i q1;subst q1;split at g
      ·rename_i q2;cases g;rw[hop,j k htch];cases hty:cl.argTypes[0]? with
       |none=>rw[hty]at q2;cases q2
       |some t =>rw[hty]at q2;exact aa9 C tk hop hcl hx hty hu (R k htch) q2
      ·cases g
     ·cases g
    ·cases g
   ·rename_i hcl;replace hv:RAs c J (cl.args.toList.map a.eval):=by simpa[Op.operands,Call.operands,hcl]using hv
    split at g
    ·rename_i k v m x t1 t2 htys;have hty:cl.argTypes = #[t1,t2]:=B_ (by simpa using htys);have hal:∃p q,cl.args = #[p,q]:=by
      have:=hv.length;simp at this;match h:cl.args.toList,(by simpa using this.symm:cl.args.toList.length=2)with
      |[p,q],_=>exact⟨p,q,B_ (by simpa using h)⟩
     obtain⟨p,q,hpq⟩:=hal;rw[hpq]at hv;obtain⟨u,u',e1,h1,h2⟩:=gx (v:=a.eval p) (v':=a.eval q) hv;cases e1;have htch:cg T (.call cl) [.msl k v 0 m,x] fresh=some k:=by simp[cg,hcl]
     split at g
     ·rename_i e12;subst e12;split at g
      ·rename_i q1;subst q1;split at g
       ·rename_i e1 τ1 l' hel hl;split at g
        ·rename_i q2;subst q2;split at g
         next l2 hc=>obtain⟨et,hl2⟩:=cast?_some hc;cases et;have hl2:l2=l':=hl2;subst hl2;simp at g;obtain⟨k1,rfl,rfl⟩:=g;rw[hop,after k _ htch];obtain⟨ht,hxv⟩:=gF hl h2;exact Px C tk hop hcl hpq hty h1 ht (Ek hxv) hel (R k htch) k1
         ·cases g
        ·cases g
       ·cases g
      ·cases g
     ·cases g
    ·cases g
   ·cases g
  ·cases g
 ·cases g
def KK (p:TabOk P tab)(ts:SpecsOk P T)(C:Inv B w0 U c)(hg:g=true)(R:RAs c J (o.op.operands.toList.map a.eval)){ho:HO}
  (j:∀k,cg T o.op J fresh=some k→c.heap[k]? = some ho) {out:AV} {f:HO} (l:eff tab T o g J fresh ho=some (true,out,f)):Ok P B w0 U o a c (aR T o.op J fresh c.heap f) out:=by
 unfold eff at l;split at l
 next r hr=>cases l;exact Uy p C R j hr
 ·exact UA p ts C hg R j l
def Uz (p:TabOk P tab)(C:Inv B w0 U c)(j:RAs c J (o.op.operands.toList.map a.eval)){out:AV}(f:ah0 tab o J=some out):Ok P B w0 U o a c c.heap out:=by
 unfold ah0 at f;split at f
 next t len parts hop=>
  rw[hop]at j;simp[Op.operands]at j;split at f
  next τ e ht hel=>
   split at f
   ·rename_i g;simp at g;split at f
    next l hl=>cases f;exact As C p hop (by simpa using j) ht hel g.1.1 g.1.2 g.2 hl
    ·cases f
   ·cases f
  ·cases f
 ·cases f
end
