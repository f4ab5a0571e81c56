/- Calls by contract. -/
import Derived.Test.YtfgpipfjalmooaaGreatAbsJ
import Derived.Laws.MakeOwn
import Derived.Laws.BytesString
open Option renaming some→ä,none→ö
open Bool renaming true→ü,false→ß
open Go renaming World→æ,Value→ø,Program→å,TypeId→é,Operand→è,FuncId→ê,execOp→ë,Oper→ï
set_option linter.all false
namespace Go.Proofs.YtfgpipfjalmooaaGreat
namespace Abs
open Go Go.RowKit
section
variable {P:å}{tab:Tab}{B:Bd}{U:æ}{J:Sb}{c:Gh}{o:ï}{a:Act}
variable{k v lo hi i off size n cap fresh:Nat}{s:ø}{τ:Ty}{e t:é}{x:è}{w:æ}{St:Sb}{u:AV}{A:Option Addr}{cl:Call}
def fJ {l:List τ.den}(h:RA c (.msl k v lo hi) [s])(g:c.heap[k]? = ä (.cu τ e v l)):sT (c.rv k) τ.size lo hi s:=by
 obtain⟨C,p,_,m⟩:=h;cases p;rcases m with⟨t,P,r,J,f,_,j⟩|f
 ·rw[g]at f;injection f with f;injection f with q1 q2 q3 q4;subst q1;exact j q3.symm
 ·rw[g]at f;cases f
def FN {l:List τ.den}(h:RA c (.mpt k v i off) [s])(g:c.heap[k]? = ä (.cu τ e v l)):ptS (c.rv k) τ.size i off s:=by
 obtain⟨C,p,_,m⟩:=h;cases p;rcases m with⟨t,P,r,J,f,_,j⟩|f
 ·rw[g]at f;injection f with f;injection f with q1 q2 q3 q4;subst q1;exact j q3.symm
 ·rw[g]at f;cases f
def ZB {r:ø}(h:sT r size lo hi s):s.oneCell'=true:=by rcases h with⟨_,_,_,rfl⟩|⟨_,_,_,_,_,_,_,rfl,_⟩ <;> rfl
def xB {l:List τ.den}(f:c.heap[k]? = ä (.cu τ e v l))(h:sT (c.rv k) τ.size lo hi s):RA c (.msl k v lo hi) [s] :=
 ⟨s,rfl,ZB h,.inl ⟨τ,e,v,l,f,ε _,λ_=>h⟩⟩
def aai {l:List τ.den}(f:c.heap[k]? = ä (.cu τ e v l))(h:ptS (c.rv k) τ.size i off s):RA c (.mpt k v i off) [s] :=
 ⟨s,rfl,by obtain⟨_,_,_,_,_,rfl⟩:=h;rfl,.inl ⟨τ,e,v,l,f,ε _,λ_=>h⟩⟩
def iK {l:List τ.den}(hi:Inv B U J c)(hk:c.heap[k]? = ä (.cu τ e v l)){g:Nat}(C:c.rv k = .slice (ä ⟨g,0,ö⟩) n cap) :
  n=l.length∧∃f r,c.w.heap[g]? = ä (.cells f e (0,0))∧n≤cap∧cap≤maxLen∧f.size=cap*τ.size∧f.toList.take (n*τ.size)=r∧Rep c.w c.St (chain (toD τ) l) r∧(∀o,¬c.St g o)∧B≤g:=by
 obtain⟨r,T,j,P⟩:=hi.cu k τ e v l hk;rcases T.2 with⟨p,_⟩|⟨g',R,f,p,h2,h3,h4,h5,h6,h7⟩
 ·rw[C]at p;cases p
 ·rw[C]at p;injection p with q1 q2 q3;cases q1;subst q2;subst q3;exact⟨rfl,f,r,h3,h4,h5,h6,h7,j,P g (by rw[C];rfl),h2⟩
def Se (hi:Inv B U J c)(R:TabOk P tab){y:è}(ho:o.op = .indexAddr t x y){j :Nat}{q:IntKind}{n:Int}{l:List τ.den}(hx:RA c (.msl k v lo j) [a.eval x])(hy:RA c (.val (.int q) n) [a.eval y])
  (C:c.heap[k]? = ä (.cu τ e v l)) (ht:tab.ty t=ä (.slice τ)) (h0:0≤n) (h1:n<((j-lo:Nat):Int)):Ok P B U J o a c c.heap (.mpt k v (lo+n.toNat) 0):=by
 obtain⟨i,z,_,_,_,_,_,_,hu⟩:=R.ty t _ ht;obtain⟨e',he,r,hel',hpos⟩:=hu;rcases fJ hx C with⟨_,h2,h3,_⟩|⟨g,m,cap,A,T,hle,hm,hs,f⟩
 ·omega
 ·obtain⟨rfl,cur,xs,_,hnc,_⟩:=iK hi C T;have f:A=ä ⟨g,lo*τ.size,ö⟩:=by
   obtain f|f:=f
   ·exact f
   ·omega
  subst f;refine aA hi (v :=.pointer (ä ((⟨g,lo*τ.size,ö⟩:Addr).add (n.toNat*τ.size)))) ?_ (aai C ⟨g,_,cap,T,Ω, ?_⟩)
  ·have p:=eh hy.ey;unfold ë;simp[ho,hs,p];simp[Instr.indexAt,asIntOf,η he,h0,h1,aH R r]
  ·rw[cV,d?];rfl
def Sf (hi:Inv B U J c)(C:TabOk P tab){s:é}{f:Nat}(ho:o.op = .fieldAddr s x f){d:Nat}{l:List τ.den}(R:RA c (.mpt k v i off) [a.eval x])
  (r:c.heap[k]? = ä (.cu τ e v l)) (hd:tab.si s f=ä d):Ok P B U J o a c c.heap (.mpt k v i (off+d)):=by
 obtain⟨g,n,cap,T,p,hp⟩:=FN R r;obtain⟨fs,fl,j,h1,h2,h3,h4,h5⟩:=C.si s f d hd;refine aA hi (v :=.pointer (ä ⟨g,i*τ.size+(off+d),ö⟩)) ?_ (aai r ⟨g,n,cap,T,p,rfl⟩);unfold ë;have hj:¬j.size=0:=Ω
 simp[ho,hp,Instr.fieldAt,η h1,h2,Instr.sureAddr,fieldPlace,sizeOf,typeInfo,h4,hj,cV,h3,A_]
def Wn:∀{t:Ty} {x:t.den} {off:Nat} {y:τ.den} {l:List ø},wN τ t x off=ä y→Rep w St (toD t x) l→off+τ.size≤l.length∧Rep w St (toD τ y) ((l.drop off).take τ.size):=by
 intro t;induction t with
 |cons A R j p=>
  intro x off y l h r;cases off with
  |zero=>
   unfold wN at h;split at h
   next y' f=>obtain⟨e,f⟩:=cast?_some f;subst e;subst f;cases h;have:=r.size;refine⟨Ω, ?_⟩;rw[y?,←this,x_];exact r
   ·obtain⟨c1,c2,rfl,r1,C⟩:=r;obtain⟨J,g⟩:=j h r1;refine⟨by simp;omega, ?_⟩;rw[y?]at g⊢;rw[akr Ω];exact g
  |succ n=>
   simp[wN]at h;obtain⟨c1,c2,rfl,r1,C⟩:=r;have P:=r1.size;split at h
   next hlt=>obtain⟨J,g⟩:=j h r1;refine⟨by simp;omega, ?_⟩;rw[aks Ω,akr Ξ];exact g
   next hlt=>obtain⟨J,g⟩:=p h C;refine⟨by simp;omega, ?_⟩;rw[List.drop_append,akV Ω,s_,P];exact g
 |_=>
  intro x off y l h r;cases off with
  |zero=>
   unfold wN at h;split at h
   next y' f=>obtain⟨e,f⟩:=cast?_some f;subst e;subst f;cases h;have:=r.size;refine⟨Ω, ?_⟩;rw[y?,←this,x_];exact r
   ·cases h
  |succ n=>simp[wN]at h
def WD {y:τ.den}{j:List ø}(T:Rep w St (toD τ y) j):∀{t:Ty} {x z:t.den} {off:Nat} {g:List ø},wQ τ y t x off=ä z→Rep w St (toD t x) g →
  off+j.length≤g.length∧Rep w St (toD t z) (g.take off++j++g.drop (off+j.length)):=by
 have C:=T.size;intro t;induction t with
 |cons A Bt l R=>
  intro x z off g h r;cases off with
  |zero=>
   unfold wQ at h;split at h
   next y' f=>obtain⟨e,f⟩:=cast?_some f;subst e;subst f;cases h;have:=r.size;refine⟨Ω, ?_⟩;rw[E?,s_,Z',C,←this,List.drop_length,Y?];exact T
   ·simp only at h;split at h
    next z' p=>cases h;obtain⟨c1,c2,rfl,r1,P⟩:=r;obtain⟨h1,J⟩:=l p r1;refine⟨by simp;omega,_,c2, ?_,J,P⟩;simp only[E?,s_,Z']at *;rw[aks Ω,G_]
    ·cases h
  |succ n=>
   simp[wQ]at h;obtain⟨c1,c2,rfl,r1,P⟩:=r;have hs:=r1.size;split at h
   ·rename_i U;split at h
    next z' p=>cases h;obtain⟨h1,J⟩:=l p r1;refine⟨by simp;omega,_,c2, ?_,J,P⟩;rw[akr Ω,aks Ω];simp
    ·cases h
   ·rename_i U;split at h
    ·rename_i z' p;cases h;obtain⟨h1,J⟩:=R p P;refine⟨by simp;omega,c1,_, ?_,r1,J⟩;rw[List.take_append,List.drop_append,k? Ω,akV Ω,s_,hs,G_,G_,G_,
      show n+1+j.length-A.size=n+1-A.size+j.length by omega]
    ·cases h
 |_=>
  intro x z off g h r;cases off with
  |zero=>
   unfold wQ at h;split at h
   next y' f=>obtain⟨e,f⟩:=cast?_some f;subst e;subst f;cases h;have:=r.size;refine⟨Ω, ?_⟩;rw[E?,s_,Z',C,←this,List.drop_length,Y?];exact T
   ·cases h
  |succ n=>simp[wQ]at h
def JM {w:æ}{St:Sb}{t:Ty}:∀{l:List t.den} {f:List ø} {i:Nat} {z:t.den} {g:List ø},Rep w St (chain (toD t) l) f→i<l.length→Rep w St (toD t z) g →
  Rep w St (chain (toD t) (l.set i z)) (f.take (i*t.size)++g++f.drop (i*t.size+t.size))
 |x::l,f,0,z,g,h,_,p=>by obtain⟨c1,c2,rfl,j,C⟩:=h;have r:=j.size;refine⟨g,c2, ?_,p,C⟩;rw[akj,E?,s_,Z',←r,akF]
 |x::l,f,i+1,z,g,h,hi,p=>by obtain⟨c1,c2,rfl,j,C⟩:=h;have r:=j.size;have:=JM C (by simpa using hi) p;refine⟨c1,_, ?_,j,this⟩;rw[show(i+1)*t.size=c1.length+i*t.size by rw[d?,r];omega,A_,akC,g?,G_,G_,G_]
def Py {f:Type}{l:List f}{d:f}(h:i<l.length):l.getD i d=l[i]:=by simp[List.getD,ζ h]
def Xe (hi:Inv B U J c)(tk:TabOk P tab)(ho:o.op = .load t x){f :Ty}{l:List τ.den}{y:f.den}(hx:RA c (.mpt k v i off) [a.eval x])
  (hk:c.heap[k]? = ä (.cu τ e v l)) (ht:tab.ty t=ä f) (hy:wN f τ (l.getD i (zero τ)) off=ä y):Ok P B U J o a c c.heap (.val f y):=by
 obtain⟨g,n,cap,hr,hin,hp⟩:=FN hx hk;obtain⟨rfl,cur,xs,hg,hnc,_,hcs,htk,C,_⟩:=iK hi hk hr;have he:=qh C i hin;rw[Py hin]at hy;obtain⟨hle,r⟩:=Wn hy he;have hxl:=bv C;have hlen2:((xs.drop (i*τ.size)).take τ.size).length≤τ.size:=by simp;omega
 have R:∀j u,((((xs.drop (i*τ.size)).take τ.size).drop off).take f.size)[j]? = ä u→c.w.cell? ((⟨g,i*τ.size+off,ö⟩:Addr).add j)=ä u:=by
  intro j u p;rw[b_]at p;split at p
  next hj=>
   rw[o_,b_]at p;split at p
   ·rw[o_,←htk,b_]at p;split at p
    ·rw[cV];simp[World.cell?,hg];simpa[A_]using p
    ·cases p
   ·cases p
  ·cases p
 obtain⟨v',hrun,T⟩:=cE tk ht c.w ⟨g,i*τ.size+off,ö⟩ _ r.size R;refine aA hi (v:=v') ?_ ⟨v',rfl,fG r T⟩;unfold ë;simp[ho,hp,Instr.loadAt,Instr.sureAddr,hrun]
def KD (w:æ)(g:Nat)(j:Array ø):w.grownBy (w.setRow g j) (ä g) :=
 ⟨rfl,rfl,rfl,by simp[World.setRow],λb _ f=>akz _ _ _ _ (λe=>f (by rw[e]))⟩
def Zn (hi:Inv B U J c){l l2:List τ.den}(hk:c.heap[k]? = ä (.cu τ e v l)){g:Nat}(C:c.rv k = .slice (ä ⟨g,0,ö⟩) n cap){cur:Array ø}
  (hg:c.w.heap[g]? = ä (.cells cur e (0,0))) (hl:l2.length=l.length) {f:Array ø} (ha:f.size=cur.size) (r:Rep c.w c.St (chain (toD τ) l2) (f.toList.take (n*τ.size))) :
  let c':Gh:={ c with heap:=c.heap.set k (.cu τ e v l2),w:=c.w.setRow g f,St:=c.St,rv:=λi=>if i=k then c.rv k else c.rv i }
  Inv B U J c'∧Ev c c':=by
 obtain⟨hn,cur',xs,T,hnc,hcm,hcs,htk,hrp,R,hB⟩:=iK hi hk C;rw[hg]at T;cases T;have P:obk c k=ä g:=by unfold obk;rw[hk,C];rfl
 have j:∀(p:Addr) u,c.St p.block p.off→p.spot=ö→c.w.cell? p=ä u→(c.w.setRow g f).cell? p=ä u:=λp u hst _ hc=>by have:p.block≠g:=λe=>R p.off (e ▸ hst);exact(akq (akz _ _ _ _ this)).trans hc
 refine hi.obj (ar hk) (by rw[P];exact KD _ _ _) (ε _) (Sb.le.refl _) (λ_ _ _ _ x=>x) (λ_ _ x=>.inl x) j (.inr ⟨τ,e,v,l,hk,.inl ⟨v,l2,rfl,ε _,λ_=>rfl⟩⟩)
  (.inr ⟨τ,e,v,l2,rfl,.inr (.inl (by rw[P,C];rfl)),f.toList.take (n*τ.size),⟨?_,.inr ⟨g,cap,f, ?_,hB,akY _ _ _ _ _ _ hg,Ω,hcm,by rw[ha,hcs],by rw[hl,←hn]⟩⟩,r.mono (Sb.le.refl _) j,λb hb o=>?_⟩)
 ·have h1:n*τ.size≤f.toList.length:=by rw[ο,ha,hcs];exact r_ _ hnc
  rw[g_,X? h1,hl,←hn]
 ·rw[C,hl,←hn]
 ·rw[C]at hb;simp only[Value.ownBlock,ι]at hb;rw[←hb];exact R o
def Sa (hi:Inv B U J c)(tk:TabOk P tab){y:è}(ho:o.op = .store t x y){r :Ty}{l:List τ.den}{d:r.den}{z:τ.den}(hx:RA c (.mpt k v i off) [a.eval x])(hy:RA c u [a.eval y])
  (hk:c.heap[k]? = ä (.cu τ e v l)) (ht:tab.ty t=ä r) (hd:bb? r u=ä d) (hz:wQ r d τ (l.getD i (zero τ)) off=ä z):Ok P B U J o a c (c.heap.set k (.cu τ e v (l.set i z))) .unk:=by
 obtain⟨g,n,cap,hr,C,hp⟩:=FN hx hk;obtain⟨hn,f,xs,hg,hnc,hcm,hcs,htk,p,hns,hB⟩:=iK hi hk hr;subst hn;have he:=qh p i C;rw[Py C]at hz;have T:=(bb?_sound hd hy).cells;have hds:=T.size;obtain⟨hle,hset⟩:=WD T hz he;have hch:=JM p C hset;have hxl:=bv p;obtain⟨ii,zz,R,hsz,_⟩:=tk.ty t _ ht;have hcl:f.toList.length=cap*τ.size:=by rw[ο,hcs]
 have hni:i*τ.size+τ.size≤l.length*τ.size:=by rw[←Nat.succ_mul];exact r_ _ C
 have hnc':l.length*τ.size≤cap*τ.size:=r_ _ hnc;have hseg:((xs.drop (i*τ.size)).take τ.size).length=τ.size:=by simp;omega
 rw[hseg]at hle;generalize hcy:(a.eval y).cells.toList=cy at *;have hfit:i*τ.size+off+0+cy.length≤f.size:=by rw[hcs];omega
 have hst:=akI (P:=P) g (i*τ.size+off) e cy 0 f c.w hg hfit T.one;simp at hst;have hA:(f.toList.take (i*τ.size+off)++cy++f.toList.drop (i*τ.size+off+cy.length)).toArray.size=f.size:=by simp;omega
 have hT:((f.toList.take (i*τ.size+off)++cy++f.toList.drop (i*τ.size+off+cy.length)).toArray.toList.take (l.length*τ.size)) =
   xs.take (i*τ.size)++(((xs.drop (i*τ.size)).take τ.size).take off++cy++((xs.drop (i*τ.size)).take τ.size).drop (off+cy.length))++xs.drop (i*τ.size+τ.size):=by
  rw[←htk];apply N?;intro j;simp only[b_,List.getElem?_append,o_,g_,J',akQ,hcl];by_cases h1:j<i*τ.size
  ·have e1:j<l.length*τ.size:=Ω
   have e2:j<min (i*τ.size+off) (cap*τ.size):=Ω
   simp only[e1,i?];repeat (first|rw[Θ Ω]|rw[ω Ω])
  ·by_cases h2:j<i*τ.size+off
   ·repeat (first|rw[Θ Ω]|rw[ω Ω])
    congr 1;omega
   ·by_cases h3:j<i*τ.size+off+cy.length
    ·repeat (first|rw[Θ Ω]|rw[ω Ω])
     congr 1;omega
    ·by_cases h4:j<i*τ.size+τ.size
     ·repeat (first|rw[Θ Ω]|rw[ω Ω])
      congr 1;omega
     ·by_cases h5:j<l.length*τ.size
      ·repeat (first|rw[Θ Ω]|rw[ω Ω])
       congr 1;omega
      ·repeat (first|rw[Θ Ω]|rw[ω Ω])
 obtain⟨hI,hE⟩:=Zn hi hk hr hg (l2:=l.set i z) Ψ hA (by rw[hT];exact hch);intro K Q h;have hrun:(ë a.eval o).run P c.w = .ok .skip (c.w.setRow g (f.toList.take (i*τ.size+off)++cy++f.toList.drop (i*τ.size+off+cy.length)).toArray):=by
  unfold ë;have hcs':(a.eval y).cells.size=ii.size:=by rw[hsz,←Array.length_toList,hcy,hds]
  simp[ho,hp,Instr.storeAt,Instr.sureAddr,storeVar,sizeOf,typeInfo,R,hcs',hcy,hst]
 unfold Oper.wp;rw[hrun];exact h undef _ rfl hI hE ⟨_,rfl⟩
def ZA {r:ø}{j:Nat}(h:sT r size lo hi s)(C:s = .slice A n cap)(J:n≤cap)(P:i≤j)(U:j≤hi-lo) :
  sT r size (lo+i) (lo+j) (.slice (if cap=i then A else A.map (·.add (i*size))) (j-i) (cap-i)):=by
 rcases h with⟨p,rfl,rfl,l⟩|⟨g,m,T,A',p,h2,h3,l,f⟩
 ·rw[C]at l;injection l with q1 q2 q3;subst q1;subst q2;subst q3;have:i=0:=Ω
  have:j=0:=Ω
  subst i;subst j;exact .inl ⟨p,rfl,rfl,rfl⟩
 ·rw[C]at l;injection l with q1 q2 q3;subst q1;subst q2;subst q3;refine .inr ⟨g,m,T,_,p,Ω,Ω,by rw[show lo+j-(lo+i)=j-i by omega,Nat.sub_sub], ?_⟩;split
  next hc=>
   by_cases R:i=0
   ·subst R;obtain f|f:=f
    ·exact .inl (by rw[f,akU])
    ·exact .inr ⟨Ω,Ω⟩
   ·refine .inr ⟨?_,Ω⟩;omega
  next hc=>
   obtain f|f:=f
   ·left;rw[f];simp[akv,cV,d?]
   ·omega
def Nt {r:ø}(h:sT r size lo hi s):∃A cap,s = .slice A (hi-lo) cap:=by
 rcases h with⟨_,rfl,rfl,rfl⟩|⟨g,m,f,j,_,_,_,rfl,_⟩
 ·exact⟨_,_,rfl⟩
 ·exact⟨_,_,rfl⟩
def ZC {l:List τ.den}(P:Inv B U J c)(C:c.heap[k]? = ä (.cu τ e v l))(h:sT (c.rv k) τ.size lo hi s)(j:s = .slice A n cap):n≤cap∧n=hi-lo:=by
 rcases h with⟨p,rfl,rfl,f⟩|⟨g,m,cp,A',p,h2,T,f,R⟩
 ·rw[j]at f;injection f with _ f R;omega
 ·rw[j]at f;injection f with _ f h6;obtain⟨_,_,_,_,r,_⟩:=iK P C p;omega
def Sd (hi:Inv B U J c)(tk:TabOk P tab){r j:Option è}(ho:o.op = .slice t x r j ö){g :Nat}{l:List τ.den}(hx:RA c (.msl k v lo g) [a.eval x])
  (hk:c.heap[k]? = ä (.cu τ e v l)) (ht:tab.ty t=ä (.slice τ)) {C b1:Option Int} (hlo:HT (r.map a.eval) C) (hhi:HT (j.map a.eval) b1) (hc:(aJ C b1 (g-lo)).1=ü) :
  Ok P B U J o a c c.heap (.msl k v (lo+(aJ C b1 (g-lo)).2.1) (lo+(aJ C b1 (g-lo)).2.2)):=by
 obtain⟨i,z,_,_,_,_,_,_,hu⟩:=tk.ty t _ ht;obtain⟨e',he,R,_⟩:=hu;have f:=fJ hx hk;obtain⟨A,cap,T⟩:=Nt f;obtain⟨p,_⟩:=ZC hi hk f T;obtain⟨h1,h2,h3⟩:=jN (P:=P) c.w ü (g-lo) cap hlo hhi hc p;refine aA hi ?_ (xB hk (ZA f T p h2 h3));unfold ë;simp[ho,T,Instr.sliceAt,π,η he,Instr.slice,h1,aH tk R,n_]
def aaB (hi:Inv B U J c)(r:TabOk P tab)(ho:o.op = .call cl)(p:cl.callee = .builtin .len)(f:cl.args = #[x])(j:cl.argTypes[0]? = ä t){g :Nat}{l:List τ.den}(C:RA c (.msl k v lo g) [a.eval x])
  (hk:c.heap[k]? = ä (.cu τ e v l)) (T:tab.ty t=ä (.slice τ)):Ok P B U J o a c c.heap (.val (.int .i64) ((g-lo:Nat):Int)):=by
 obtain⟨i,z,_,_,_,_,_,_,R⟩:=r.ty t _ T;obtain⟨e',he,_⟩:=R;obtain⟨A,cap,hs⟩:=Nt (fJ C hk);refine aA hi ?_ (fx _ _);unfold ë;simp[ho,resolve,p,f,invoke,builtin,Builtin.len_,j,hs,η he,goInt]
def aed (hi:Inv B U J c){m:Nat}{l:List τ.den}(R:c.heap[k]? = ä (.cu τ e v l))(h:sT (c.rv k) τ.size 0 m s) :
  m≤l.length∧s.ownBlock=obk c k∧∃r,c.w.ownsRow B e τ.size s m r∧Rep c.w c.St (chain (toD τ) (l.take m)) r:=by
 obtain⟨r,hown,hrep,_⟩:=hi.cu k τ e v l R;have f:obk c k=(c.rv k).ownBlock:=by unfold obk;rw[R]
 rcases h with⟨p,_,rfl,rfl⟩|⟨g,n,cap,A,p,_,h3,rfl,h5⟩
 ·exact⟨Y' _,by rw[f,p],[],Y_ _ _ _ _,rfl⟩
 ·obtain⟨rfl,j,xs',hg,hnc,hcm,T,C,P,_,hB⟩:=iK hi R p;obtain rfl|⟨_,h5⟩:=h5
  ·refine⟨h3,by rw[f,p];rfl,j.toList.take (m*τ.size),⟨?_,.inr ⟨g,cap,j, ?_,hB,hg,Ω,hcm,T,rfl⟩⟩, ?_⟩
   ·have:m*τ.size≤cap*τ.size:=r_ _ Ω;simp;omega
   ·rw[akj,akB,akB]
   ·have:=rV m h3 P;rw[←C,akE]at this;rw[X? (r_ _ h3)]at this;exact this
  ·omega
def Ep {v:ø}{f:List ø}(h:w.ownsRow B e size v n f):sT v size 0 n v:=by
 rcases h.2 with⟨rfl,rfl⟩|⟨g,cap,j,rfl,_⟩
 ·exact .inl ⟨rfl,rfl,rfl,rfl⟩
 ·exact .inr ⟨g,n,cap,ä ⟨g,0,ö⟩,rfl,Y' _,ε _,Ψ,.inl Ψ⟩
def OF (hi:Inv B U J c)(tk:TabOk P tab){s:è}(ho:o.op = .call cl)(hcl:cl.callee = .builtin .append)(hargs:cl.args = #[s,x])(hty:cl.argTypes = #[t,t]){m:Nat}{l f:List τ.den}
  (hs:RA c (.msl k v 0 m) [a.eval s]) (ht:tab.ty t=ä (.slice τ)) (hx:∃A cp ds,a.eval x = .slice A f.length cp∧Rep c.w c.St (chain (toD τ) f) ds∧ds.length=f.length*τ.size∧(f.length=0∨∃p,A=ä p∧∀j u,ds[j]? = ä u→c.w.cell? (p.add j)=ä u))
  (he:tab.elem t=ä e) (hk:c.heap[k]? = ä (.cu τ e v l)) (hlim:m+f.length≤LIM) :
  Ok P B U J o a c (c.heap.set k (.cu τ e (v+1) (l.take m++f))) (.msl k (v+1) 0 (m+f.length)):=by
 obtain⟨i,z,_,_,_,_,_,_,hu⟩:=tk.ty t _ ht;obtain⟨R,u1,u2,u3,hpos⟩:=hu;have:R=e:=by rw[he]at u3;exact(Δ u3).symm
 subst this;obtain⟨ie,ze,t1,t2,t3,t4,t5,_⟩:=tk.ty R τ u2;have T:=fJ hs hk;obtain⟨hml,r,xs,hown,hrep⟩:=aed hi hk T;obtain⟨A,cp,ds,ex,hrx,hdl,hsrc⟩:=hx;obtain⟨r63,rby⟩:=og hlim t5;obtain⟨v',w',hrun,h2,h3,h4,h5,hd⟩:=cg (P:=P) (B:=B) c.w t o.type R ie ze τ.size ie.bytes u1 t1 t3 t2 rfl (by rw[←Array.length_toList,t4,←(fB (w:=c.w) (St:=c.St) τ).size]) hpos (a.eval s) m xs hown A f.length cp ds hdl hsrc hrx.one r63 rby hi.size;obtain⟨_,_,_,hns⟩:=hi.cu k τ R v l hk;have C:obk c k=(c.rv k).ownBlock:=by unfold obk;rw[hk]
 have g:∀(p:Addr) u,c.St p.block p.off→p.spot=ö→c.w.cell? p=ä u→w'.cell? p=ä u:=λp u hst _ hc=>by refine h3.cell hc (λe=>?_);rw[r,C]at e;exact hns p.block e.symm p.off hst
 have hlen:(l.take m++f).length=m+f.length:=by simp;omega
 have hnst:∀b,v'.ownBlock=ä b→∀o,¬c.St b o:=λb hb o x=>by
  obtain h4|h4:=h4
  ·rw[h4,r,C]at hb;exact hns b hb o x
  ·rw[h4]at hb;injection hb with hb;have:=hi.to _ _ x;omega
 obtain⟨hI,hE⟩:=hi.obj (k:=k) (ho' :=.cu τ R (v+1) (l.take m++f)) (w':=w') (St':=c.St) (r':=v') (ar hk) (by rw[←r];exact h3) hd (Sb.le.refl _) (λ_ _ _ _ x=>x) (λ_ _ x=>.inl x) g
  (.inr ⟨τ,R,v,l,hk,.inl ⟨v+1,_,rfl,Ω,λh=>Ω⟩⟩)
  (.inr ⟨τ,R,v+1,_,rfl,.inr (by rw[←r];exact h4),xs++ds,by rw[hlen];exact h2,(kN hrep hrx).mono (Sb.le.refl _) g,hnst⟩)
 refine eT (v:=v') (fQ ho hcl hargs hty (by rw[ex];exact hrun)) rfl hI hE (xB (l:=l.take m++f) (e:=R) (τ:=τ) ?_ ?_)
 ·show(c.heap.set k _)[k]? = _;rw[cf,Θ rfl,Θ (ar hk)]
 ·show sT (if k=k then v' else c.rv k) τ.size 0 (m+f.length) v';rw[Θ rfl];exact Ep h2
def Fs (hi:Inv B U J c)(tk:TabOk P tab){s:è}(ho:o.op = .call cl)(hcl:cl.callee = .builtin .append)(p:cl.args = #[s,x])(hty:cl.argTypes = #[t,t]){j:List τ.den}
  (hs:RA c .nil [a.eval s]) (hx:RA c u [a.eval x]) (hl:yF (tab.ty t) u=ä ⟨τ,j⟩) (he:tab.elem t=ä e) (hf:c.heap[fresh]? = ä .none) (hlim:j.length≤LIM) :
  Ok P B U J o a c (c.heap.set fresh (.cu τ e 1 j)) (.msl fresh 1 0 j.length):=by
 obtain⟨ht,hxv⟩:=ga hl hx;obtain⟨i,z,_,_,_,_,_,_,hu⟩:=tk.ty t _ ht;obtain⟨r,u1,u2,u3,hpos⟩:=hu;have:r=e:=by rw[he]at u3;exact(Δ u3).symm
 subst this;obtain⟨ie,ze,t1,t2,t3,t4,t5,_⟩:=tk.ty r τ u2;obtain⟨A,cp,ds,ex,hrx,hdl,hsrc⟩:=CZ hxv;obtain⟨r63,rby⟩:=og hlim t5;have hs:[a.eval s]=[.slice ö 0 0]:=hs;simp at hs;obtain⟨C,w',hrun,h2,h3,R,h5,hd⟩:=cg (P:=P) (B:=B) c.w t o.type r ie ze τ.size ie.bytes u1 t1 t3 t2 rfl (by rw[←Array.length_toList,t4,←(fB (w:=c.w) (St:=c.St) τ).size]) hpos (.slice ö 0 0) 0 [] (Y_ _ _ _ _) A j.length cp ds hdl hsrc hrx.one (by simpa using r63) (by simpa using rby) hi.size;have f:obk c fresh=none:=by unfold obk;rw[hf]
 have g:∀(T:Addr) u,c.St T.block T.off→T.spot=ö→c.w.cell? T=ä u→w'.cell? T=ä u:=λT u hst _ hc=>by refine h3.cell hc (λe=>?_);cases e
 have hnst:∀b,C.ownBlock=ä b→∀o,¬c.St b o:=λb hb o x=>by
  obtain R|R:=R
  ·rw[R]at hb;cases hb
  ·rw[R]at hb;injection hb with hb;have:=hi.to _ _ x;omega
 have h2':w'.ownsRow B r τ.size C j.length ds:=by simpa using h2
 obtain⟨hI,hE⟩:=hi.obj (k:=fresh) (ho' :=.cu τ r 1 j) (w':=w') (St':=c.St) (r':=C) (ar hf) (by rw[f];exact h3) hd (Sb.le.refl _) (λ_ _ _ _ x=>x) (λ_ _ x=>.inl x) g (.inl hf)
  (.inr ⟨τ,r,1,_,rfl,.inr (by rw[f];exact R),ds,h2',hrx.mono (Sb.le.refl _) g,hnst⟩)
 refine eT (v:=C) (fQ ho hcl p hty (by rw[hs,ex];exact hrun)) rfl hI hE (xB (l:=j) (e:=r) (τ:=τ) ?_ ?_)
 ·show(c.heap.set fresh _)[fresh]? = _;rw[cf,Θ rfl,Θ (ar hf)]
 ·show sT (if fresh=fresh then C else c.rv fresh) τ.size 0 j.length C;rw[Θ rfl];exact Ep h2'
def CR (hi:Inv B U J c)(tk:TabOk P tab){parts:Array (Nat×è)}(ho:o.op = .buildSlice t 0 parts)(hp:parts.size=0)
  (ht:tab.ty t=ä (.slice τ)) (he:tab.elem t=ä e) (R:c.heap[fresh]? = ä .none):Ok P B U J o a c (c.heap.set fresh (.cu τ e 0 [])) (.msl fresh 0 0 0):=by
 obtain⟨i,z,_,_,_,_,_,_,hu⟩:=tk.ty t _ ht;obtain⟨p,u1,u2,u3,hpos⟩:=hu;have:p=e:=by rw[he]at u3;exact(Δ u3).symm
 subst this;have hpe:parts = #[]:=s? hp;subst hpe;have g:obk c fresh=none:=by unfold obk;rw[R]
 have hb:Below c.w.heap.size c.w (c.w.alloc (.cells #[] p)):=(Below.refl _ _).alloc (ε _) _;have f:∀(r:Addr) u,c.St r.block r.off→r.spot=ö→c.w.cell? r=ä u→(c.w.alloc (.cells #[] p)).cell? r=ä u:=λr u T _ hc=>(hb.cell (hi.to _ _ T)).trans hc;have C:Rep c.w c.St (chain (toD τ) []) []:=rfl;obtain⟨hI,hE⟩:=hi.obj (k:=fresh) (ho' :=.cu τ p 0 []) (w':=c.w.alloc (.cells #[] p)) (St':=c.St) (r' :=.slice (ä ⟨c.w.heap.size,0,ö⟩) 0 0) (ar R)
  (by rw[g];exact⟨rfl,rfl,rfl,hb.size,λb j _=>hb.block b j⟩) (ε _) (Sb.le.refl _) (λ_ _ _ _ x=>x) (λ_ _ x=>.inl x) f (.inl R)
  (.inr ⟨τ,p,0,_,rfl,.inr (.inr rfl),[],⟨Ψ,.inr ⟨c.w.heap.size,0, #[],rfl,hi.size,w? c.w _,ε _,by simp[maxLen],Ψ,Ψ⟩⟩,C.mono (Sb.le.refl _) f,λb j o x=>by
   simp only[Value.ownBlock,ι]at j;have:=hi.to _ _ x;omega⟩)
 refine eT (v :=.slice (ä ⟨c.w.heap.size,0,ö⟩) 0 0) ?_ rfl hI hE (xB (τ:=τ) (e:=p) (l:=[]) ?_ ?_)
 ·unfold ë;have hno:¬(0*τ.size>2^24):=Ω
  have h0:0*τ.size=0:=akj _;simp only[ho,Instr.buildSlice,π,η u1,χ,aH tk u2,ω hno];rw[Θ h0,π,n_,χ];simp[newRow,Instr.fill,show Array.range 0 = #[] from rfl]
 ·show(c.heap.set fresh _)[fresh]? = _;rw[cf,Θ rfl,Θ (ar R)]
 ·show sT (if fresh=fresh then _ else c.rv fresh) τ.size 0 0 _;rw[Θ rfl];exact .inr ⟨c.w.heap.size,0,0,ä ⟨c.w.heap.size,0,ö⟩,rfl,Y' _,ε _,Ψ,.inl Ψ⟩
def IA {w:æ}{St:Sb}:∀{l:List Int} {f:List ø},Rep w St (chain (toD (.int .u8)) l) f→f=l.map (λn=>.int .u8 n)
 |[],f,h=>h
 |n::l,f,h=>by obtain⟨c1,c2,rfl,⟨rfl,_⟩,h2⟩:=h;rw[IA h2];rfl
def Hw (hi:Inv B U J c)(tk:TabOk P tab){s:é}(ho:o.op = .convert s t x){l:List Int}(hx:RA c u [a.eval x])(hl:one? (.slice (.int .u8)) u=ä l)(ht:tab.ty t=ä .str)(hs:tab.ty s=ä (.slice (.int .u8))) :
  Ok P B U J o a c c.heap (.val .str (l.map λn:Int=>UInt8.ofNat n.toNat)):=by
 obtain⟨i,z,_,_,_,_,_,_,hu⟩:=tk.ty t _ ht;have hu:P.underlying t=ä .string:=hu;obtain⟨i',z',_,_,_,_,_,_,hus⟩:=tk.ty s _ hs;obtain⟨e,u1,u2,u3,hpos⟩:=hus;obtain⟨_,_,_,_,_,_,_,_,p⟩:=tk.ty e _ u2;have p:P.underlying e=ä (.int .u8):=p;obtain⟨A,cp,ev,hcap,hds⟩:=dV ((repv_cell (t :=.slice (.int .u8)) rfl).1 (one?_sound hl hx));simp at ev;refine aA hi (v :=.string ⟨(l.map λn:Int=>UInt8.ofNat n.toNat).toArray⟩) ?_ (E3 _);have f:(Conv.bytesToString (a.eval x)).run P c.w = .ok (.string ⟨(l.map λn:Int=>UInt8.ofNat n.toNat).toArray⟩) c.w:=by
  rw[ev];cases A with
  |none=>
   have hl0:l=[]:=by
    obtain h0|⟨ad,ds,h0,_⟩:=hds
    ·exact Q' h0
    ·cases h0
   subst hl0;simp[Conv.bytesToString];rfl
  |some ad=>
   have C:(loadCells ad l.length).run P c.w = .ok (l.map (Value.int .u8)).toArray c.w:=by
    obtain h0|⟨ad',ds,h0,_,hrep,T⟩:=hds
    ·have:l=[]:=Q' h0;subst this;simp[loadCells,loadCellsFrom]
    ·cases h0;have hb:=IA hrep;have:=aj9 (P:=P) c.w ad ds (λj u hu=>(T j u hu).1);rw[hb]at this;simpa using this
   rw[run_bytesToString (P:=P) c.w ad l.length cp l C];have R:∀(ns:List Int) (g:ByteArray),ns.foldl (λr n=>r.push (UInt8.ofNat n.toNat)) g=⟨g.data++(ns.map λn:Int=>UInt8.ofNat n.toNat).toArray⟩:=by
    intro ns;induction ns with
    |nil=>intro g;simp
    |cons n ns ih=>intro g;simp only[List.foldl_cons,ih,c?];congr 1;simp[ByteArray.push]
   rw[R];congr 3;simp
 unfold ë;simp[ho,convert,η u1,η hu];rw[ev]at f⊢;simp[η p,f]
end
def oC (g:Bool):AV→Bool×AV
 |.cond c a=>(aL g c,a)
 |a=>(ü,a)
def pj (g:Bool):List AV→Bool×List AV
 |[]=>(ü,[])
 |a::l=>((oC g a).1&&(pj g l).1,(oC g a).2::(pj g l).2)
def gU (op:Op)(g:Bool)(l:List AV):Bool×List AV :=
 match op,l with
 |.pick _ _ _,a::r=>((oC g a).1,(oC g a).2::r)
 |_,l=>pj g l
def zT (env:List AV)(g:List ï)(j:Nat)(f:Bool):Option Bool :=
 match (g[j]?).bind (·.dst)with
 |some d=>match env.getD d .unk with
  |.val .bool b=>ä (match f with|true=>b|false=>!b)
  |.cond c (.val .bool b)=>ä (c&&(match f with|true=>b|false=>!b))
  |_=>ö
 |none=>ö
structure Dl where
 xb:Bool
 out:AV
 dst:Option Nat
 wr:Option (Nat×HO)
def tq (env:List AV)(f:Option Nat)(a:AV):List AV :=
 match f with
 |some d=>env.set d a
 |none=>env
def EC (f:List HO)(wr:Option (Nat×HO)):List HO :=
 match wr with
 |some (k,ho)=>f.set k ho
 |none=>f
def Dl.ke (d:Dl)(σ:Sg):Sg:=⟨tq σ.env d.dst d.out,EC σ.heap d.wr⟩
def Pp (f:List HO)(k:Option Nat):HO :=
 match k with
 |some k=>f.getD k .none
 |none=>.none
def T2 (f:Tab)(T:Specs)(o:ï)(fresh:Nat)(g:Option Bool)(C:List AV)(l:HO):Option Dl :=
 match g with
 |none=>match eff f T o ü C fresh l with
  |some (c,out,j)=>ä ⟨c,out,o.dst,if cW T o.op then ö else match co T o.op C fresh with|some k=>ä (k,j)|none=>ö⟩
  |none=>ö
 |some g=>if cW T o.op then match eff f T o g (gU o.op g C).2 fresh l with
   |some (c,out,_)=>ä ⟨(gU o.op g C).1&&aL g c,.cond g out,o.dst,ö⟩
   |none=>ö
  else match aih f o (gU o.op g C).2 with
   |some out=>ä ⟨(gU o.op g C).1,.cond g out,o.dst,ö⟩
   |none=>ö
def gOf (env:List AV)(f:List ï)(o:ï):Option (Option Bool) :=
 match o.guard with
 |none=>ä ö
 |some (j,want)=>match zT env f j want with
  |some g=>ä (ä g)
  |none=>ö
def di (env:List AV)(o:ï):List AV:=o.op.operands.toList.map (R8 env)
def lG (T:Specs)(o:ï)(fresh:Nat)(g:Option Bool)(C:List AV):Option Nat :=
 match g with
 |none=>co T o.op C fresh
 |some g=>co T o.op (gU o.op g C).2 fresh
def wP (j:Tab)(T:Specs)(l:List ï)(fresh:Nat)(o:ï)(f:Sg):Option Dl :=
 match gOf f.env l o with
 |some g=>T2 j T o fresh g (di f.env o) (Pp f.heap (lG T o fresh g (di f.env o)))
 |none=>ö
def AV.nF:AV→Bool
 |.fn _ c=>c.nF
 |.agg p=>p.nF
 |.tup p=>p.nF
 |.pcons a b=>a.nF&&b.nF
 |.cond _ _=>ß
 |_=>ü
def clr:AV→AV
 |.cond _ _=>.unk
 |a=>a
inductive Tgt where
 |fn (f:ê)|yld (j:Nat)
abbrev Yk:=Nat→List AV→List HO→(AV→List HO→Option AV)→Option AV
abbrev Ck:=Tgt→List AV→List HO→(AV→List HO→Option AV)→Option AV
structure Callk where
 call:Ck
 iter:Yk→Ck
def cI (o:ï)(env:List AV):Option (Tgt×List AV) :=
 match o.op,o.guard with
 |.call cl,ö=>match cl.callee,di env o with
  |.value _,.fn f caps::args=>if env.all AV.nF then ä (.fn f,args++caps.parts)else ö
  |.value _,.yld j::args=>if env.all AV.nF then ä (.yld j,args)else ö
  |_,_=>ö
 |_,_=>ö
def OW (g:Tab)(o:ï)(f:Sg)(fresh:Nat):Option (Bool×AV×List HO) :=
 match o.op,o.guard with
 |.call cl,ö=>match cl.callee with
  |.builtin .append=>match di f.env o,cl.argTypes.toList with
   |[s,.msl k v lo hi],[t1,j]=>if t1=j then match g.elem t1,g.ty t1,f.heap[k]? with
     |some e,ä (.slice τ),ä (.cu τ' _ v' l)=>if v'=v then match cast? (.slice τ') (.slice τ) l with
       |some l=>match s with
        |.own C r j p=>match f.heap[C]? with
         |some (.row t3 e3 v3)=>if t3=j then if e3=e then if v3=r then match cast? (.slice j) (.slice τ) p with
           |some p=>ä (decide (p.length+((l.take hi).drop lo).length≤LIM),.own C (r+1) τ (p++(l.take hi).drop lo),f.heap.set C (.row τ e (r+1)))
           |none=>ö
          else ö else ö else ö
         |_=>ö
        |.nil=>match f.heap[fresh]? with
         |some .none=>ä (decide (((l.take hi).drop lo).length≤LIM),.own fresh 1 τ ((l.take hi).drop lo),f.heap.set fresh (.row τ e 1))
         |_=>ö
        |_=>ö
       |none=>ö
      else ö
     |_,_,_=>ö
    else ö
   |_,_=>ö
  |_=>ö
 |_,_=>ö
def aQ (l:Tab)(T:Specs)(ck:Callk)(C:List ï)(g:Nat):Nat→List ï→Sg→(Sg→Option AV)→Option AV
 |_,[],p,k=>k p
 |i,o::r,p,k=>
  match wP l T C (g+i) o p with
  |some d=>bif d.xb then aQ l T ck C g (i+1) r (d.ke p) k else ö
  |none=>match OW l o p (g+i)with
   |some (b,out,j)=>bif b then aQ l T ck C g (i+1) r ⟨tq p.env o.dst out,j⟩ k else ö
   |none=>match cI o p.env with
    |some (f,args)=>ck.call f args p.heap (λcz j=>aQ l T ck C g (i+1) r ⟨tq p.env o.dst cz,j⟩ k)
    |none=>ö
def Ed (l:Tab)(T:Specs)(j:List ï)(f:Nat):Nat→List ï→Sg→Option (List Dl×List (Option Nat))
 |_,[],_=>ä ([],[])
 |i,o::r,σ=>
  match wP l T j (f+i) o σ with
  |some d=>match Ed l T j f (i+1) r (d.ke σ)with
   |some (ds,ts)=>ä (d::ds,(match gOf σ.env j o with|some g=>lG T o (f+i) g (di σ.env o)|none=>ö)::ts)
   |none=>ö
  |none=>match r with
   |[]=>ä ([],[])
   |_=>ö
def aK:List ï→List Nat→List Nat
 |[],acc=>acc
 |o::r,acc=>aK r (acc++[o.after.toList.foldl (λs e=>if Region.binds .any e then s ||| 2^e.on ||| acc.getD e.on 0 else s) 0])
def bU:Nat→List ï→Bool
 |_,[]=>ü
 |i,o::r=>o.after.toList.all (λe=>!Region.binds .any e||decide (e.on<i))&&bU (i+1) r
def eo (f:List ï)(o:ï):List Nat :=
 (o.op.operands.toList.filterMap λ|.tmp t=>ä t|_=>ö)++(match o.guard with|some (j,_)=>((f[j]?).bind (·.dst)).toList|none=>[])
def IU (x y:Option Nat):Bool :=
 match x,y with
 |some a,ä b=>a == b
 |_,_=>ß
def apart (T:Specs)(f:List ï)(j g:ï)(p l:Option Nat):Bool :=
 !IU j.dst g.dst&&(match j.dst with|some d=>!(eo f g).contains d|none=>ü)&&(match g.dst with|some d=>!(eo f j).contains d|none=>ü) &&
 (!IU p l||(cW T j.op&&cW T g.op))
def fy (T:Specs)(f:List ï)(r:List Nat)(g:List (Option Nat))(i j:Nat):Bool :=
 (r.getD j 0).testBit i||(match f[i]?,f[j]? with
  |some p,ä l=>apart T f p l (g.getD i ö) (g.getD j ö)
  |_,_=>ß)
def L4 (T:Specs)(f:List ï)(g:List (Option Nat))(l:List Nat):Bool :=
 bU 0 f&&(List.range f.length).all (λj=>(List.range j).all λi=>
  if j<g.length then fy T f l g i j else(l.getD j 0).testBit i)
def ahY (k:Sg→Option AV):Sg→Option AV:=λf=>k ⟨f.env.map clr,f.heap⟩
def vi (j:Tab)(T:Specs)(ck:Callk)(f:List ï)(l:Bool)(g:Sg)(k:Sg→Option AV):Option AV :=
 match l with
 |false=>aQ j T ck f g.heap.length 0 f ⟨g.env,g.heap++List.replicate f.length .none⟩ (ahY k)
 |true=>match Ed j T f g.heap.length 0 f ⟨g.env,g.heap++List.replicate f.length .none⟩with
  |some (_,ts)=>if L4 T f ts (aK f [])then aQ j T ck f g.heap.length 0 f ⟨g.env,g.heap++List.replicate f.length .none⟩ (ahY k)else ö
  |none=>ö
inductive MK where
 |bb (t:Ty)|own (t:Ty) (e:é)|mut (t:Ty) (e:é)|keep|drop
structure MS where
 h0:Nat
 pre:List (Nat×List MK)
 env:List (Nat×MK)
def AV.under (n:Nat):AV→Bool
 |.box k _=>decide (k<n)
 |.own k _ _ _=>decide (k<n)
 |.msl k _ _ _=>decide (k<n)
 |.mpt k _ _ _=>decide (k<n)
 |.yld k=>decide (k<n)
 |.fn _ c=>c.under n
 |.agg p=>p.under n
 |.tup p=>p.under n
 |.pcons a b=>a.under n&&b.under n
 |.cond _ a=>a.under n
 |_=>ü
inductive LE where
 |own (t:Ty) (e:é)
 |mut (t:Ty) (e:é) (ko:Option (Nat×Nat)) (l:List t.den)
 |frz (t:Ty) (e:é) (ko:Option (Nat×Nat)) (l:List t.den)
def LE.ho:LE→HO
 |.own t e=>.row t e 0
 |.mut t e _ l=>.cu t e 0 l
 |.frz _ _ _ _=>.dead
def ae6 (k v:Nat):Option (Nat×Nat)→Bool
 |some (k',v')=>Nat.beq k k'&&Nat.beq v v'
 |none=>ß
def zW (t:Ty)(k v:Nat):Nat→List LE→Option Nat
 |_,[]=>ö
 |i,.mut t' _ ko _::r=>if ae6 k v ko&&decide (t'=t)then ä i else zW t k v (i+1) r
 |i,_::r=>zW t k v (i+1) r
def zX (t:Ty)(k v:Nat):List LE→Option (List t.den)
 |[]=>ö
 |.frz t' _ ko l::r=>if ae6 k v ko then match cast? (.slice t') (.slice t) l with|some l=>ä l|none=>ö else zX t k v r
 |_::r=>zX t k v r
def conv (f:Nat):MK→AV→List HO→List LE→Option (AV×List HO×List LE)
 |.bb t,.msl k v j p,H,L=>match t with
  |.slice g=>match zX g k v L with
   |some l=>ä (.val (.slice g) ((l.take p).drop j),H,L)
   |none=>match H[k]? with
    |some (.cu τ' e v' l)=>if v'=v then match cast? (.slice τ') (.slice g) l with
      |some l=>ä (.val (.slice g) ((l.take p).drop j),H.set k .dead,L++[.frz g e (ä (k,v)) l])
      |none=>ö
     else ö
    |_=>ö
  |_=>ö
 |.bb t,a,H,L=>match bb? t a with
  |some x=>ä (.val t x,H,L)
  |none=>ö
 |.own t e,.own k v r l,H,L=>match H[k]? with
  |some (.row t2 e2 v2)=>if t2=r then if e2=e then if v2=v then match cast? (.slice r) (.slice t) l with
    |some l=>ä (.own (f+L.length) 0 t l,H.set k (.row t2 e2 (v2+1)),L++[.own t e])
    |none=>ö
   else ö else ö else ö
  |_=>ö
 |.own t e,.nil,H,L=>ä (.own (f+L.length) 0 t [],H,L++[.own t e])
 |.mut t e,.msl k v j p,H,L=>match zW t k v 0 L with
  |some i=>ä (.msl (f+i) 0 j p,H,L)
  |none=>match H[k]? with
   |some (.cu t2 e2 v2 l)=>if e2=e then if v2=v then match cast? (.slice t2) (.slice t) l with
     |some l=>ä (.msl (f+L.length) 0 j p,H.set k .dead,L++[.mut t e (ä (k,v)) l])
     |none=>ö
    else ö else ö
   |_=>ö
 |.mut t e,.nil,H,L=>ä (.msl (f+L.length) 0 0 0,H,L++[.mut t e ö []])
 |.keep,a,H,L=>if a.under f then ä (a,H,L)else ö
 |.drop,_,H,L=>ä (.unk,H,L)
 |_,_,_,_=>ö
def Vo (f:Nat):List MK→List AV→List HO→List LE→Option (List AV×List HO×List LE)
 |[],[],H,L=>ä ([],H,L)
 |m::ms,a::as,H,L=>match conv f m a H L with
  |some (g,H,L)=>match Vo f ms as H L with
   |some (as',H,L)=>ä (g::as',H,L)
   |none=>ö
  |none=>ö
 |_,_,_,_=>ö
def DB (f:Nat)(env:List AV):List (Nat×MK)→List AV→List HO→List LE→Option (List AV×List HO×List LE)
 |[],acc,H,L=>ä (acc,H,L)
 |(s,m)::r,acc,H,L=>match conv f m (env.getD s .unk) H L with
  |some (a,H,L)=>DB f env r (acc.set s a) H L
  |none=>ö
def DA (f:Nat):List (Nat×List MK)→List HO→List LE→Option (List (Nat×List AV)×List HO×List LE)
 |[],H,L=>ä ([],H,L)
 |(k,ms)::r,H,L=>match H[k]? with
  |some (.box cells)=>match Vo f ms cells H L with
   |some (cells',H,L)=>match DA f r H L with
    |some (b,H,L)=>ä ((k,cells')::b,H,L)
    |none=>ö
   |none=>ö
  |_=>ö
def HO.under (n:Nat):HO→Bool
 |.box cells=>cells.all (AV.under n)
 |_=>ü
def eK:List (Nat×List AV)→List HO→List HO
 |[],H=>H
 |(k,cells)::r,H=>eK r (H.set k (.box cells))
def zh (g:Nat)(f:List Nat):Nat→List HO→Bool
 |_,[]=>ü
 |i,ho::r=>(f.contains i||ho.under g)&&zh g f (i+1) r
def FG:List Nat→Bool
 |[]=>ü
 |a::l=>!l.contains a&&FG l
def aeQ (g:Nat)(m:MS)(f:Sg):Option Sg :=
 if decide (g≤m.h0)&&decide (m.h0≤f.heap.length)&&FG (m.pre.map (·.1))&&m.pre.all (λp=>decide (p.1<m.h0))&&zh m.h0 (m.pre.map (·.1)) 0 (f.heap.take m.h0)then
  match DA m.h0 m.pre f.heap []with
  |some (j,H,L)=>match DB m.h0 f.env m.env (List.replicate f.env.length .unk) H L with
   |some (env,H,L)=>ä ⟨env,eK j (H.take m.h0)++L.map LE.ho⟩
   |none=>ö
  |none=>ö
 else ö
inductive Ex where
 |normal|exit (id:Nat)|ret
abbrev KT:=Ex→Sg→Option AV
structure Par where
 tab:Tab
 T:Specs
 joins:Nat→Nat→Option MS
 loops:Nat→Nat→Option MS
def rP:Code→Option Nat
 |.region id _ _=>ä id
 |.seq a b=>match rP a with|some i=>ä i|none=>rP b
 |.cond _ a b=>match rP a with|some i=>ä i|none=>rP b
 |.block _ c=>rP c
 |.loop c=>rP c
 |.scope c=>rP c
 |_=>ö
def FX (j:Nat)(m:Option MS)(g:Sg)(k:Sg→Option AV):Option AV :=
 match m with
 |none=>k g
 |some m=>match aeQ j m g with
  |some f=>k f
  |none=>ö
def aW (j:Nat)(m:Option MS)(l:Sg→KT→Option AV)(k:KT):KT:=λe g=>
 match e with
 |.normal=>FX j m g λf=>l f k
 |e=>k e g
def ak (id:Nat)(k:KT):KT:=λe g=>
 match e with
 |.exit f=>match Nat.beq f id with
  |true=>k .normal g
  |false=>k (.exit f) g
 |e=>k e g
def I4 (j:Nat)(m:MS)(f:Sg→Option AV)(k:KT):KT:=λe g=>
 match e with
 |.normal=>FX j (ä m) g f
 |e=>k e g
def aN (g:Nat)(m:MS)(f:Sg→KT→Option AV)(k:KT):Nat→Sg→Option AV
 |0,_=>ö
 |n+1,σ=>f σ (I4 g m (aN g m f k n) k)
def ahZ (f:Sg→Option AV)(k:KT):KT:=λe g=>
 match e with
 |.normal=>f g
 |e=>k e g
def pQ (f:Sg→KT→Option AV)(k:KT):Nat→Sg→Option AV
 |0,_=>ö
 |n+1,σ=>f σ (ahZ (pQ f k n) k)
def cm:Code→Bool
 |.region _ f _=>f.toList.all λo=>match o.op with|.defer _=>ß|_=>ü
 |.seq a b=>cm a&&cm b
 |.cond _ a b=>cm a&&cm b
 |.block _ a=>cm a
 |.loop a=>cm a
 |.scope a=>cm a
 |.rangeFunc _ _ a b=>cm a&&cm b
 |_=>ü
def exec (ck:Callk)(S:Par):Nat→Nat→Code→Sg→KT→Option AV
 |_,_,.skip,g,k=>k .normal g
 |_,_,.label _,g,k=>k .normal g
 |_,_,.region _ p l,g,k=>vi S.tab S.T ck p.toList l g (k .normal)
 |j,f,.seq a b,g,k=>exec ck S j f a g (aW j ((rP b).bind (S.joins j)) (λg k=>exec ck S j f b g k) k)
 |j,f,.cond c a b,g,k=>match R8 g.env c with
  |.val .bool x=>bif x then exec ck S j f a g k else exec ck S j f b g k
  |_=>ö
 |j,f,.block id c,g,k=>exec ck S j f c g (ak id k)
 |j,f,.loop c,g,k=>match (rP c).bind (S.loops j)with
  |some m=>FX j (ä m) g (aN j m (λg k=>exec ck S j f c g k) k f)
  |none=>pQ (λg k=>exec ck S j f c g k) k f g
 |_,_,.exit id,g,k=>k (.exit id) g
 |_,_,.ret,g,k=>k .ret g
 |_,_,_,_,_=>ö
def yO (j:Tab)(l:Sg):ResultVar→Option AV
 |.tmp t=>match l.env.getD t .unk with
  |.cond _ _=>ö
  |a=>ä a
 |.cell t p=>match l.env.getD t .unk with
  |.box k f=>match l.heap.getD k .none,j.ty p with
   |.box cells,ä g=>match asm g ((cells.drop f).take g.size)with
    |some x=>ä (.val g x)
    |none=>if g.an&&aek (j.one p) ((cells.drop f).take g.size)then ä (.agg (aY ((cells.drop f).take g.size)))else ö
   |_,_=>ö
  |_=>ö
def eP (f:Tab)(g:Sg):List ResultVar→Option (List AV)
 |[]=>ä []
 |r::l=>match yO f g r,eP f g l with
  |some a,ä j=>ä (a::j)
  |_,_=>ö
def pF:List AV→AV
 |[a]=>a
 |l=>.tup (aY l)
def ajt (f:Tab)(j:List ResultVar)(k:AV→List HO→Option AV):KT:=λe g=>
 match e with
 |.exit _=>ö
 |_=>match eP f g j with
  |some l=>k (pF l) g.heap
  |none=>ö
def Fo (f:List HO)(t:Ty)(a:AV):Option t.den :=
 match a with
 |.msl k v j p=>match t with
  |.slice g=>match f[k]? with
   |some (.cu τ' _ v' l)=>if v'=v then match cast? (.slice τ') (.slice g) l with
     |some l=>ä ((l.take p).drop j)
     |none=>ö
    else ö
   |_=>ö
  |_=>ö
 |a=>one? t a
def YN (f:List HO):(t:Ty)→List AV→Option t.den
 |.unit,[]=>ä ()
 |.cons a b,l=>match YN f a (l.take a.size),YN f b (l.drop a.size)with|some x,ä y=>ä (x,y)|_,_=>ö
 |.tree,[a,b,c,d]=>match Fo f (.int .i64) a,Fo f .str b,Fo f (.slice .str) c,Fo f (.slice .tree) d with
  |some k,ä t,ä g,ä j=>ä (Tree.mk k t g j)
  |_,_,_,_=>ö
 |.int k,[a]=>Fo f (.int k) a
 |.bool,[a]=>Fo f .bool a
 |.str,[a]=>Fo f .str a
 |.slice t,[a]=>Fo f (.slice t) a
 |_,_=>ö
def afC (f:List HO)(t:Ty)(a:AV):Option t.den :=
 match a with
 |.agg p=>if t.an then YN f t p.parts else ö
 |a=>Fo f t a
def ach (f:List HO):List Ty→List AV→Option (List AV)
 |[],[]=>ä []
 |t::ts,a::l=>match afC f t a,ach f ts l with
  |some x,ä r=>ä (.val t x::r)
  |_,_=>ö
 |_,_=>ö
def bq (g:Tab)(p:List ResultVar)(f:List Ty):KT:=λe j=>
 match e with
 |.exit _=>ö
 |_=>match eP g j p with
  |some l=>match ach j.heap f l with
   |some l=>ä (pF l)
   |none=>ö
  |none=>ö
structure Fi where
 S:Par
 ntmps:Nat
 results:List ResultVar
 code:Code
abbrev Hs:=ê→List AV→List HO→Option (Bool×AV×List HO)
def hs0:Hs:=λ_ _ _=>ö
def TA (call:Yk→Ck)(f:Yk):Callk:=⟨call f,call⟩
def UL (C:ê→Option Fi)(r:Hs)(l:Nat):Nat→Yk→Ck
 |_,p,.yld j,args,g,k=>p j args g k
 |0,_,.fn _,_,_,_=>ö
 |d+1,p,.fn f,args,g,k=>match r f args g with
  |some (b,out,heap')=>bif b then k out heap' else ö
  |none=>match C f with
   |some x=>exec (TA (UL C r l d) p) x.S g.length l x.code ⟨args++List.replicate (x.ntmps-args.length) .unk,g⟩ (ajt x.S.tab x.results k)
   |none=>ö
def noY:Yk:=λ_ _ _ _=>ö
abbrev bo (j:ê→Option Fi)(g:Hs)(f d:Nat):Callk:=TA (UL j g f d) noY
def mkE (n:Nat)(l:List (Nat×AV)):List AV:=l.foldl (λe p=>e.set p.1 p.2) (List.replicate n .unk)
def mkH (n:Nat)(l:List (Nat×HO)):List HO:=l.foldl (λe p=>e.set p.1 p.2) (List.replicate n .none)
def sub:Code→List Nat→Code
 |.seq a _,0::r=>sub a r
 |.seq _ b,1::r=>sub b r
 |.cond _ a _,0::r=>sub a r
 |.cond _ _ b,1::r=>sub b r
 |.block _ c,0::r=>sub c r
 |.loop c,0::r=>sub c r
 |.rangeFunc _ _ _ c,0::r=>sub c r
 |.rangeFunc _ _ c _,1::r=>sub c r
 |c,_=>c
abbrev w64 (n:Int):Int:=IntKind.i64.wrap n
abbrev ix (t:Ty)(l:List t.den)(i:Int):t.den:=l.getD i.toNat (zero t)
abbrev ixs (l:Str)(i:Int):Int:=((l.getD i.toNat 0).toNat:Int)
def mT (l:ê→Option Fi)(j:Hs)(d:Nat)(x:Fi)(g:List Ty)(f:Nat)(args:List AV):Option AV :=
 match args.all AV.j5 with
 |true=>exec (bo l j f d) x.S 0 f x.code ⟨args++List.replicate (x.ntmps-args.length) .unk,[]⟩ (bq x.S.tab x.results g)
 |false=>ö
def RepVs (w:æ)(St:Sb):List ((t:Ty)×t.den)→List ø→Prop
 |[],[]=>True
 |d::l,v::vs=>RepV w St d.1 d.2 v∧RepVs w St l vs
 |_,_=>False
def Hm:List AV→List ((t:Ty)×t.den)→Prop
 |[],[]=>True
 |a::l,d::r=>bb? d.1 a=ä d.2∧Hm l r
 |_,_=>False
def bA (P:å)(f:ê):Prop:=∃fn,P.funcs[f]? = ä fn∧fn.body.isSome=ü∧(fn.name == "runtime.NumGoroutine")=ß
def aG (w:æ)(St:Sb):Gh:=⟨[],St,λ_=>0,λ_=>undef,w,λ_=>0⟩
def Hj (w:æ)(St:Sb)(cz:AV):Ending→æ→Prop:=λe f=>
 ∃v St',e = .returned v∧Below w.heap.size w f∧dz w≤dz f∧St.le St'∧(∀b o,St' b o→St b o∨(w.heap.size≤b∧b<f.heap.size))∧(∀b e cap n,St'.j b e cap n→St.j b e cap n∨NJ w.heap.size f St' b e cap n)∧RA (aG f St') cz [v]
def MeetsD (P:å)(f:ê)(j:List ((t:Ty)×t.den))(cz:AV):Prop :=
 bA P f∧∀w St,(∀b o,St b o→b<w.heap.size)→∀g,RepVs w St j g→Calls P f g.toArray w (Hj w St cz)
def Hk (P:å)(f:ê)(args:List AV)(cz:AV):Prop :=
 ∃R:æ→Sb→List ø→Prop,(∀c g,RAs c args g→R c.w c.St g)∧bA P f∧∀w St,(∀b o,St b o→b<w.heap.size)→∀g,R w St g→Calls P f g.toArray w (Hj w St cz)
def aiL (P:å)(f:ê)(t:Ty)(e:é)(args:List AV)(p:List t.den):Prop :=
 bA P f∧∀(B:Bd) (U:æ) (J:Sb) (c:Gh),Inv B U J c→∀(k v:Nat),c.heap[k]? = ä (.row t e v)→∀j,RAs c args j →
  Calls P f j.toArray c.w λC l=>∃r g,C = .returned r∧g.heap=c.heap.set k (.row t e (v+1))∧g.w=l∧Inv B U J g∧Ev c g∧RA g (.own k (v+1) t p) [r]
structure SpecsOk (P:å)(T:Specs):Prop where
 call:∀f args cz,T.call f args=ä (ü,cz)→Hk P f args cz
 nw:∀f q,T.nw f=ä q→∀args l',q.F args=ä (ü,l')→aiL P f q.t q.e args l'
section
variable {P:å}{tab:Tab}{T:Specs}{B:Bd}{U:æ}{J:Sb}{c:Gh}{o:ï}{a:Act}
def RAs.bb:∀{g:List AV} {f:List ø} {j:List ((t:Ty)×t.den)},Hm g j→RAs c g f→RepVs c.w c.St j f
 |[],[],[],_,_=>trivial
 |_::_,_::_,_::_,⟨h,p⟩,⟨r,l⟩=>⟨bb?_sound h r,RAs.bb p l⟩
 |[],[],_::_,h,_=>h.elim
 |_::_,_::_,[],h,_=>h.elim
variable{f:ê}{args us C:List AV}{cz:AV}{cl:Call}{x:è}{fresh:Nat}{v:ø}{g:Bool}
def kW {ds:List ((t:Ty)×t.den)}(l:Hm args ds)(g:MeetsD P f ds cz):Hk P f args cz :=
 ⟨λw St j=>RepVs w St ds j,λ_ _ h=>h.bb l,g.1,g.2⟩
def PS {c':Gh}{St:Sb}(f:St.le c'.St):Ev (aG c'.w St) c' :=
 ⟨f,λ_ _ _ _ h=>h,λk cells h=>by simp[aG]at h,λk t e v h=>by simp[aG]at h,λk t e v l h=>by simp[aG]at h,λk h=>by simp[aG]at h,λk h=>by simp[aG]at h⟩
def aeB (hi:Inv B U J c)(ho:o.op = .call cl)(hcl:cl.callee = .value x)(hx:RA c (.fn f .pnil) [a.eval x])(hargs:RAs c args (cl.args.toList.map a.eval))(hm:Hk P f args cz) :
  Ok P B U J o a c c.heap cz:=by
 obtain⟨R,hR,⟨fn,f1,f2,f3⟩,hm⟩:=hm;obtain⟨cs,e,hcs,_⟩:=hx;have hcs:cs=[]:=hcs;subst hcs;simp at e;have hbody:¬fn.body=none:=by cases hb:fn.body <;> simp_all
 have f3:¬fn.name = "runtime.NumGoroutine":=by simpa using f3
 have hrun:(ë a.eval o).run P c.w = .ok (.enter f (cl.args.toList.map a.eval).toArray) c.w:=by have e2:cl.args.map a.eval=(cl.args.toList.map a.eval).toArray:=D_ Ψ;unfold ë;simp[ho,resolve,hcl,e,Deferred.ofValue,invoke,callFunc,p?,f1,f3,hbody,e2]
 intro K Q h;unfold Oper.wp;rw[hrun];refine(hm c.w c.St hi.to _ (hR c _ hargs)).mono ?_;rintro _ w' ⟨v,St',rfl,hb,hdr,hs,hn,hj,hr⟩;obtain⟨hI,hE⟩:=hi.grow hb hs hn hdr hj;exact h v { c with w:=w',St:=St' } rfl hI hE (hr.mono (PS (c':={ c with w:=w',St:=St' }) (Sb.le.refl _)))
def ahv (hi:Inv B U J c)(ho:o.op = .call cl)(hcl:cl.callee = .value x){t:Ty}{e:é}{l':List t.den}(hx:RA c (.fn f .pnil) [a.eval x])(hargs:RAs c args (cl.args.toList.map a.eval))(hf:c.heap[fresh]? = ä .none)(hm:aiL P f t e args l') :
  Ok P B U J o a c (c.heap.set fresh (.row t e 1)) (.own fresh 1 t l'):=by
 obtain⟨⟨fn,f1,f2,f3⟩,hm⟩:=hm;obtain⟨cs,ee,hcs,_⟩:=hx;have hcs:cs=[]:=hcs;subst hcs;simp at ee;have hbody:¬fn.body=none:=by cases hb:fn.body <;> simp_all
 have f3:¬fn.name = "runtime.NumGoroutine":=by simpa using f3
 have hrun:(ë a.eval o).run P c.w = .ok (.enter f (cl.args.toList.map a.eval).toArray) c.w:=by have e2:cl.args.map a.eval=(cl.args.toList.map a.eval).toArray:=D_ Ψ;unfold ë;simp[ho,resolve,hcl,ee,Deferred.ofValue,invoke,callFunc,p?,f1,f3,hbody,e2]
 intro K Q h;unfold Oper.wp;rw[hrun];obtain⟨hI,hE⟩:=hi.addRow (k:=fresh) (n:=0) (t:=t) (e:=e) (s :=.slice ö 0 0) (xs:=[]) hf (Y_ _ _ _ _) (λb hb=>by simp[Value.ownBlock]at hb) (λk' b hb=>by simp[Value.ownBlock]at hb) (λb hb=>by simp[Value.ownBlock]at hb) (λb hb=>by simp[Value.ownBlock]at hb);have hk:(c.heap.set fresh (.row t e 0))[fresh]? = ä (.row t e 0):=by rw[cf,Θ rfl,Θ (ar hf)]
 refine(hm B U J _ hI fresh 0 hk _ (hargs.mono hE)).mono ?_;rintro _ w' ⟨r,c',rfl,hh,rfl,hI',hE',hr'⟩;exact h r c' (by rw[hh];simp) hI' (hE.trans hE') hr'
def agp (h:RAs c us []):us=[]:=by cases us with|nil=>rfl|cons _ _=>exact h.elim
def dg (h:RAs c us [v]):∃u,us=[u]∧RA c u [v]:=by
 match us,h with
 |[u],⟨r,_⟩=>exact⟨u,rfl,r⟩
 |_::_::_,⟨_,h⟩=>exact h.elim
def uA {vs:List ø}(h:RAs c us (v::vs)):∃u r,us=u::r∧RA c u [v]∧RAs c r vs:=by
 match us,h with
 |u::r,⟨g,f⟩=>exact⟨u,r,rfl,g,f⟩
def fV {v' :ø}(h:RAs c us [v,v']):∃u f,us=[u,f]∧RA c u [v]∧RA c f [v']:=by obtain⟨u,r,rfl,l,j⟩:=uA h;obtain⟨f,rfl,g⟩:=dg j;exact⟨u,f,rfl,l,g⟩
def YV {v' v'' :ø}(h:RAs c us [v,v',v'']):∃u g f,us=[u,g,f]∧RA c u [v]∧RA c g [v']∧RA c f [v'']:=by obtain⟨u,r,rfl,C,p⟩:=uA h;obtain⟨g,f,rfl,l,j⟩:=fV p;exact⟨u,g,f,rfl,C,l,j⟩
def pq {f:Type}{l:List f}{k:Nat}{x:f}(h:l[k]? = ä x):l.set k x=l:=by
 apply N?;intro i;rw[cf];split
 next e=>subst e;rw[Θ (ar h),h]
 ·rfl
def aS (T:Specs)(op:Op)(C:List AV)(fresh:Nat)(f:List HO)(g:HO):List HO :=
 match co T op C fresh with
 |some k=>f.set k g
 |none=>f
def nT {u:AV}{n:Int}(h:Gd u=ä n)(r:RA c u [v]):∃k,v = .int k n:=by
 cases u with
 |val t x=>
  cases t with
  |int k =>cases h;exact⟨k,eh r.ey⟩
  |_=>simp[Gd]at h
 |_=>simp[Gd]at h
def Ap {g f:Option è}{r:List AV}{J P:Option Int}(h:BB g f r=ä (J,P))(p:RAs c r ((g.toList++f.toList).map a.eval)):HT (g.map a.eval) J∧HT (f.map a.eval) P:=by
 cases g with
 |none=>
  cases f with
  |none =>have:=agp p;subst this;cases h;exact⟨apa,apa⟩
  |some y=>
   obtain⟨u,rfl,j⟩:=dg p;simp[BB]at h;split at h
   next n l=>cases h;exact⟨apa,nT l j⟩
   ·cases h
 |some x=>
  cases f with
  |none=>
   obtain⟨u,rfl,j⟩:=dg p;simp[BB]at h;split at h
   next n l=>cases h;exact⟨nT l j,apa⟩
   ·cases h
  |some y=>
   obtain⟨u,T,rfl,j,C⟩:=fV p;simp[BB]at h;split at h
   next n m l R=>cases h;exact⟨nT l j,nT R C⟩
   ·cases h
def dn {op:Op}{f:List HO}{g:HO}(h:∀k,co T op C fresh=ä k→f[k]? = ä g):aS T op C fresh f g=f:=by
 unfold aS;split
 next k hk=>exact pq (h k hk)
 ·rfl
set_option maxHeartbeats 1000000 in
def Tp (tk:TabOk P tab)(ts:SpecsOk P T)(hi:Inv B U J c)(hg:g=ü)(hv:RAs c C (o.op.operands.toList.map a.eval)){ho:HO}
  (hho:∀k,co T o.op C fresh=ä k→c.heap[k]? = ä ho) {out:AV} {ho':HO} (j:ab2 tab T o g C fresh ho=ä (ü,out,ho')):Ok P B U J o a c (aS T o.op C fresh c.heap ho') out:=by
 unfold ab2 at j;cases R:o.op with
 |move x =>simp[R,Op.operands]at j hv;obtain⟨u,rfl,hu⟩:=dg (v:=a.eval x) hv;split at j <;> simp only[ι,C',reduceCtorEq]at j;rename_i hx;simp at hx;obtain⟨_,rfl,rfl⟩:=j;exact Uw hi (.inl R) (hx ▸ hu)
 |assign x =>simp[R,Op.operands]at j hv;obtain⟨u,rfl,hu⟩:=dg (v:=a.eval x) hv;split at j <;> simp only[ι,C',reduceCtorEq]at j;rename_i hx;simp at hx;obtain⟨_,rfl,rfl⟩:=j;exact Uw hi (.inr R) (hx ▸ hu)
 |pick x y z=>
  simp only[R,Op.operands]at j hv;obtain⟨u,u',u'',rfl,h1,h2,h3⟩:=YV (v:=a.eval x) (v':=a.eval y) (v'':=a.eval z) hv;split at j
  next cb p q hx=>
   simp only[k_,P_]at hx;obtain⟨rfl,rfl,rfl⟩:=hx;split at j
   ·rename_i t xx t' yy hp hq;split at j
    ·rename_i yy' hc;obtain⟨e,hyy⟩:=cast?_some hc;subst e;have hyy:yy'=yy:=hyy;subst hyy;simp only[ι,C',θ]at j;obtain⟨⟨k1,k2⟩,rfl,rfl⟩:=j;refine Le hi R h1 (λhb=>?_) (λhb=>?_) hp hq
     ·exact wT h2 k1 (by simp[hg,hb])
     ·exact wT h3 k2 (by simp[hg,hb])
    ·cases j
   ·cases j
  ·cases j
 |alloc t=>
  simp only[R]at j hho;have hf:=hho fresh rfl;split at j
  ·split at j
   next τ ht=>simp only[ι,C']at j;obtain⟨_,rfl,rfl⟩:=j;exact Fu hi tk R hf ht
   ·split at j
    next n ht=>simp only[ι,C']at j;obtain⟨_,rfl,rfl⟩:=j;exact Lm hi tk R hf ht
    ·cases j
  ·cases j
 |box t x=>
  simp only[R,Op.operands]at j hv hho;have hf:=hho fresh rfl;obtain⟨u,rfl,hu⟩:=dg (v:=a.eval x) hv;split at j
  next hx=>
   simp only[k_,P_]at hx;subst hx;split at j
   next hs=>simp only[ι,C']at j;obtain⟨_,rfl,rfl⟩:=j;exact Sl hi R hf hu hs
   ·cases j
  ·cases j
 |load t x=>
  simp only[R,Op.operands]at j hv hho;obtain⟨u,rfl,hu⟩:=dg (v:=a.eval x) hv;split at j
  next k off cells hx=>
   simp only[k_,P_]at hx;subst hx;have hk:c.heap[k]? = ä (.box cells):=hho k rfl;have hsame:aS T (.load t x) [.box k off] fresh c.heap (.box cells)=c.heap:=by
    show c.heap.set k _=_;exact pq hk
   split at j
   ·rename_i τ ht;split at j
    ·rename_i hst;split at j
     ·rename_i h1;simp only[ι,C']at j;obtain⟨_,rfl,rfl⟩:=j;rw[hsame];unfold aek at h1;split at h1
      next n hn=>simp only[θ]at h1;exact OH hi tk R hu hk ht hst hn (ν h1.1) h1.2
      ·cases h1
     ·split at j
      next y hy=>simp only[ι,C']at j;obtain⟨_,rfl,rfl⟩:=j;rw[hsame];exact Fq hi tk R hu hk ht hy
      ·cases j
    ·rename_i hs;split at j
     next u' hu'=>simp only[ι,C']at j;obtain⟨_,rfl,rfl⟩:=j;rw[hsame];obtain⟨i,z,_,_,_,_,_,_,hund⟩:=tk.ty t τ ht;obtain⟨d,hd,hn⟩:=Eb (by simpa using hs) hund;exact zi hi R hu hk hd hn hu'
     ·cases j
   ·rename_i ht;split at j
    ·rename_i hc;split at j
     next u' hu'=>simp only[ι,C']at j;obtain⟨_,rfl,rfl⟩:=j;rw[hsame];obtain⟨i,z,d,_,_,_,_,hd,hn⟩:=tk.cells t 1 hc;exact zi hi R hu hk hd (hn ht rfl) hu'
     ·cases j
    ·cases j
  next τ y hx=>
   simp only[k_,P_]at hx;subst hx;split at j
   next ht=>simp only[ι,C']at j;obtain⟨_,rfl,rfl⟩:=j;exact OG hi tk R hu ht
   ·cases j
  ·cases j
 |store t x y=>
  simp only[R,Op.operands]at j hv hho;obtain⟨u,u',rfl,h1,h2⟩:=fV (v:=a.eval x) (v':=a.eval y) hv;split at j
  next k off v cells hx=>
   simp only[k_,P_]at hx;obtain⟨rfl,rfl⟩:=hx;have hk:c.heap[k]? = ä (.box cells):=hho k rfl;split at j
   next hs=>simp only[θ,υ]at hs;simp only[ι,C']at j;obtain⟨_,rfl,rfl⟩:=j;exact Fp hi tk R h1 h2 hk hs.1.1 hs.1.2 hs.2
   ·cases j
  ·cases j
 |fieldAddr s x f=>
  simp only[R,Op.operands]at j hv;obtain⟨u,rfl,hu⟩:=dg (v:=a.eval x) hv;split at j
  next k off hx=>
   simp only[k_,P_]at hx;subst hx;split at j
   next d hd=>simp only[ι,C']at j;obtain⟨_,rfl,rfl⟩:=j;exact AT hi tk R hu hd
   ·cases j
  next τ y hx=>
   simp only[k_,P_]at hx;subst hx;split at j
   ·rename_i ht;split at j
    next τ' y' hp=>simp only[ι,C']at j;obtain⟨_,rfl,rfl⟩:=j;exact AS hi tk R hu ht hp
    ·cases j
   ·cases j
  ·cases j
 |field s x f=>
  simp only[R,Op.operands]at j hv;obtain⟨u,rfl,hu⟩:=dg (v:=a.eval x) hv;split at j
  next τ y hx=>
   simp only[k_,P_]at hx;subst hx;split at j
   ·rename_i ht;split at j
    next τ' y' hp=>simp only[ι,C']at j;obtain⟨_,rfl,rfl⟩:=j;exact aaC hi tk R hu ht hp
    ·cases j
   ·cases j
  ·cases j
 |indexAddr t x y=>
  simp only[R,Op.operands]at j hv;obtain⟨u,u',rfl,h1,h2⟩:=fV (v:=a.eval x) (v':=a.eval y) hv;split at j
  next k off q n hx=>
   simp only[k_,P_]at hx;obtain⟨rfl,rfl⟩:=hx;split at j
   next m hm=>simp only[ι,C',θ,υ]at j;obtain⟨⟨k1,k2⟩,rfl,rfl⟩:=j;rw[dn (by simpa only[R]using hho)];exact Li hi tk R h1 h2 hm k1 k2
   ·cases j
  next s k n _ hx=>
   simp only[k_,P_]at hx;obtain⟨rfl,rfl⟩:=hx;split at j
   next τ l hl=>simp only[ι,C',θ,υ]at j;obtain⟨⟨k1,k2⟩,rfl,rfl⟩:=j;rw[dn (by simpa only[R]using hho)];exact Lj hi tk R h1 h2 hl k1 k2
   ·cases j
  ·cases j
 |index t x y=>
  simp only[R,Op.operands]at j hv;obtain⟨u,u',rfl,h1,h2⟩:=fV (v:=a.eval x) (v':=a.eval y) hv;split at j
  next s k n hx=>
   simp only[k_,P_]at hx;obtain⟨rfl,rfl⟩:=hx;split at j
   next l hl=>simp only[ι,C',θ,υ]at j;obtain⟨⟨k1,k2⟩,rfl,rfl⟩:=j;exact Lh hi tk R h1 h2 hl k1 k2
   ·cases j
  ·cases j
 |binOp op tx x y ty=>
  simp only[R,Op.operands]at j hv;obtain⟨u,u',rfl,h1,h2⟩:=fV (v:=a.eval x) (v':=a.eval y) hv;simp only at j;split at j
  next cb v hb=>
   simp only[ι,C']at j;obtain⟨rfl,rfl,rfl⟩:=j;have hb':=hb;unfold ur at hb;split at hb
   ·split at hb
    ·simp only[ι,C',υ]at hb;obtain⟨hn,rfl⟩:=hb;exact(OD hi R h1 h2 hn).1 rfl
    ·simp only[ι,C',υ]at hb;obtain⟨hn,rfl⟩:=hb;exact(OD hi R h1 h2 hn).2 rfl
    ·split at hb
     next hk=>subst hk;exact Sn hi R h1 h2 hb
     ·cases hb
   ·exact Sm hi R h1 h2 hb'
   ·exact OK hi tk R h1 h2 hb'
   ·exact Hz hi tk R h1 h2 hb'
   ·cases hb
  ·cases j
 |unOp op t x=>
  simp only[R,Op.operands]at j hv;obtain⟨u,rfl,hu⟩:=dg (v:=a.eval x) hv;cases op <;> simp only at j <;> first|(cases j;done)|skip
  all_goals split at j
  all_goals first|(cases j;done)|skip
  all_goals
   rename_i hx;simp only[k_,P_]at hx;subst hx;simp only[ι,C']at j;obtain⟨_,rfl,rfl⟩:=j;exact ahu hi R hu
 |convert s t x=>
  simp only[R,Op.operands]at j hv;obtain⟨u,rfl,hu⟩:=dg (v:=a.eval x) hv;split at j
  next k' n k τ hx ht hts=>
   simp only[k_,P_]at hx;subst hx;simp only[ι,C']at j;obtain⟨_,rfl,rfl⟩:=j;obtain⟨i,z,hin,_⟩:=tk.ty s _ hts;refine OJ hi tk R hu ht ?_;obtain⟨_,_,_,_,_,_,_,_,hund⟩:=tk.ty s _ hts;cases hs:τ.an with
   |true=>obtain⟨fs,hf,_⟩:=fY hs hund;exact⟨_,hf⟩
   |false=>obtain⟨d,hd,_⟩:=Eb hs hund;exact⟨_,hd⟩
  next x2 hx ht hts=>
   simp only[k_,P_]at hx;subst hx;split at j
   next l hl=>simp only[ι,C']at j;obtain⟨_,rfl,rfl⟩:=j;exact Hw hi tk R hu hl ht hts
   ·cases j
  ·cases j
 |build t parts=>
  simp only[R,Op.operands]at j hv;split at j
  next τ ht=>
   split at j
   ·rename_i hs;split at j
    ·rename_i hc;unfold ai4 at hc;split at hc
     next n hn=>simp only[θ,υ,G',ο]at hc;simp only[ι,C']at j;obtain⟨_,rfl,rfl⟩:=j;exact Hx hi tk R hv ht hn hc.1.1 hc.1.2 hc.2
     ·cases hc
    ·split at j
     next y hy=>simp only[ι,C']at j;obtain⟨_,rfl,rfl⟩:=j;exact zm hi tk R hv ht hs hy
     ·cases j
   ·cases j
  ·split at j
   ·rename_i n hn;split at j
    next hs=>simp only[θ]at hs;simp only[ι,C']at j;obtain⟨_,rfl,rfl⟩:=j;exact Ll hi tk R hv hn (ν hs.1.1) hs.1.2 hs.2
    ·cases j
   ·split at j
    ·rename_i n hn;split at j
     next hs=>simp only[θ]at hs;simp only[ι,C']at j;obtain⟨_,rfl,rfl⟩:=j;exact Lk hi tk R hv hn (ν hs.1.1) hs.1.2 hs.2
     ·cases j
    ·cases j
 |buildSlice t len parts=>
  simp only[R,Op.operands]at j hv hho;have hf:=hho fresh rfl;split at j
  next τ e ht hel=>
   split at j
   ·rename_i hs;simp only[θ,υ]at hs;split at j
    ·rename_i l hl;split at j
     ·simp only[ι,C']at j;obtain⟨_,rfl,rfl⟩:=j;exact Hy hi tk R hv ht hel hs.1.1 hs.1.2 hs.2 hl hf
     next hz=>simp only[ι,C']at j;obtain⟨_,rfl,rfl⟩:=j;have h0:len=0:=ν (aj1.1 hz).2;exact CR hi tk (by rw[R,h0]) (hs.1.1.symm.trans h0) ht hel hf
    ·cases j
   ·cases j
  ·cases j
 |slice t x low high mx=>
  cases mx with
  |some m=>simp[R]at j
  |none=>
   simp only[R,Op.operands]at j hv;obtain⟨s,r,rfl,h1,h2⟩:=uA (v:=a.eval x) (vs:=(low.toList++high.toList).map a.eval) (by cases low <;> cases high <;> simpa using hv);simp only at j;split at j
   ·rename_i lo hi' hb;obtain⟨b1,b2⟩:=Ap hb h2;split at j
    next τ l hl=>simp only[ι,C']at j;obtain⟨k1,rfl,rfl⟩:=j;rw[dn (by simpa only[R]using hho)];exact aaz hi tk R h1 b1 b2 hl k1
    ·split at j
     next l hl=>simp only[ι,C']at j;obtain⟨k1,rfl,rfl⟩:=j;rw[dn (by simpa only[R]using hho)];exact Ld hi tk R h1 b1 b2 hl k1
     ·cases j
   ·cases j
 |extract x i=>
  simp only[R,Op.operands]at j hv;obtain⟨u,rfl,hu⟩:=dg (v:=a.eval x) hv;split at j
  next p hx=>
   simp only[k_,P_]at hx;subst hx;split at j
   next u' hp=>simp only[ι,C']at j;obtain⟨_,rfl,rfl⟩:=j;exact Sj hi R hu hp
   ·cases j
  ·cases j
 |call cl=>
  simp only[R,Op.operands]at j hv hho;cases hcl:cl.callee with
  |invoke r m=>simp[hcl]at j
  |value x=>
   simp only[hcl]at j;have hv:RAs c C (a.eval x::cl.args.toList.map a.eval):=by simpa[Call.operands,hcl]using hv
   obtain⟨u,r,rfl,h1,h2⟩:=uA hv;split at j
   ·rename_i hnw;split at j
    ·rename_i f args hx;simp only[k_]at hx;obtain⟨rfl,rfl⟩:=hx;split at j
     ·rename_i q hq;split at j
      ·rename_i b l' hF;simp only[ι,C']at j;obtain⟨rfl,rfl,rfl⟩:=j;have htch:co T (.call cl) (.fn f .pnil::r) fresh=ä fresh:=by simp only[co,hcl,hnw]
       have hf:=hho fresh htch;have hh:∀y,aS T (.call cl) (.fn f .pnil::r) fresh c.heap y=c.heap.set fresh y:=λy=>by unfold aS;rw[htch]
       rw[hh];exact ahv hi R hcl h1 h2 hf (ts.nw f _ hq r l' hF)
      ·cases j
     ·cases j
    ·cases j
   ·rename_i hnw;split at j
    ·rename_i f args hx;simp only[k_]at hx;obtain⟨rfl,rfl⟩:=hx;split at j
     ·rename_i b v hT;simp only[ι,C']at j;obtain⟨rfl,rfl,rfl⟩:=j;have hm:=ts.call f r _ hT;have:aS T (.call cl) (.fn f .pnil::r) fresh c.heap ho=c.heap:=by
       have ht:co T (.call cl) (.fn f .pnil::r) fresh=none:=by simp only[co,hcl,hnw]
       simp only[aS,ht]
      rw[this];exact aeB hi R hcl h1 h2 hm
     ·cases j
    ·cases j
  |builtin b=>
   simp only[hcl]at j;have hv:RAs c C (cl.args.toList.map a.eval):=by simpa[Call.operands,hcl]using hv
   cases b <;> simp only at j <;> first|(cases j;done)|skip
   case max=>
    have hh:aS T (.call cl) C fresh c.heap ho=c.heap:=dn hho;split at j
    ·rename_i k x k' y _;split at j
     ·rename_i hkk;subst hkk;simp only[ι,C',true_and]at j;obtain⟨rfl,rfl⟩:=j;rw[hh];have hal:∃p q,cl.args = #[p,q]:=by
       have:=hv.length;simp at this;match h:cl.args.toList,(by simpa using this.symm:cl.args.toList.length=2)with
       |[p,q],_=>exact⟨p,q,D_ (by simpa using h)⟩
      obtain⟨p,q,hpq⟩:=hal;rw[hpq]at hv;obtain⟨u,u',e,h1,h2⟩:=fV (v:=a.eval p) (v':=a.eval q) hv;simp only[k_,P_]at e;obtain⟨rfl,rfl⟩:=e;have hpv:=eh h1.ey;have hqv:=eh h2.ey;refine aA hi (v :=.int k (tJ x y)) ?_ (fx _ _);unfold ë;simp[R,resolve,hcl,hpq,invoke,builtin,Builtin.max_,Builtin.max2,hpv,hqv,tJ]
     ·cases j
    ·cases j
   case len=>
    have hh:aS T (.call cl) C fresh c.heap ho=c.heap:=dn hho;split at j
    ·rename_i s;have hal:∃x,cl.args = #[x]:=by
      have:=hv.length;simp at this;exact al2.1 this.symm
     obtain⟨x,hx⟩:=hal;rw[hx]at hv;obtain⟨u,e,hu⟩:=dg (v:=a.eval x) hv;simp only[k_,P_]at e;subst e;cases hty:cl.argTypes[0]? with
     |none =>rw[hty]at j;simp[yF,yC]at j
     |some t=>
      rw[hty]at j;simp only[Option.bind_some]at j;split at j
      next τ l hl=>simp only[ι,C']at j;obtain⟨_,rfl,rfl⟩:=j;rw[hh];exact ahA hi tk R hcl hx hty hu hl
      ·split at j
       next l hl=>simp only[ι,C']at j;obtain⟨_,rfl,rfl⟩:=j;rw[hh];exact Si hi tk R hcl hx hty hu hl
       ·cases j
    ·cases j
   case append=>
    split at j
    ·rename_i s x t1 t2 htys _;have hty:cl.argTypes = #[t1,t2]:=D_ (by simpa using htys);have hal:∃p q,cl.args = #[p,q]:=by
      have:=hv.length;simp at this;match h:cl.args.toList,(by simpa using this.symm:cl.args.toList.length=2)with
      |[p,q],_=>exact⟨p,q,D_ (by simpa using h)⟩
     obtain⟨p,q,hpq⟩:=hal;rw[hpq]at hv;obtain⟨u,u',e,h1,h2⟩:=fV (v:=a.eval p) (v':=a.eval q) hv;simp only[k_,P_]at e;obtain⟨rfl,rfl⟩:=e;split at j
     ·rename_i e12;subst e12;split at j
      ·rename_i e τ l' hel hl;split at j
       ·rename_i k v t l _;split at j
        ·rename_i t' e' v';split at j
         ·rename_i q1;split at j
          ·rename_i q2;split at j
           ·rename_i q3;split at j
            ·rename_i l2 hc;obtain⟨et,hl2⟩:=cast?_some hc;injection et with et;subst et;have hl2:l2=l:=hl2;subst hl2;subst q1;subst q2;subst q3;simp only[ι,C',υ]at j;obtain⟨k1,rfl,rfl⟩:=j;have htch:co T (.call cl) [.own k v' t' l2,x] fresh=ä k:=by simp only[co,hcl]
             have hk:=hho k htch;have hh:aS T (.call cl) [.own k v' t' l2,x] fresh c.heap (.row t' e' (v'+1))=c.heap.set k (.row t' e' (v'+1)):=by unfold aS;rw[htch]
             rw[hh];exact Xf hi tk R hcl hpq hty h1 h2 hl hel hk k1
            ·cases j
           ·cases j
          ·cases j
         ·cases j
        ·cases j
       ·split at j
        ·split at j
         ·simp only[ι,C',υ]at j;obtain⟨k1,rfl,rfl⟩:=j;have htch:co T (.call cl) [.nil,x] fresh=ä fresh:=by simp only[co,hcl]
          have hf:=hho fresh htch;have hh:aS T (.call cl) [.nil,x] fresh c.heap (.row τ e 1)=c.heap.set fresh (.row τ e 1):=by unfold aS;rw[htch]
          rw[hh];exact HA hi tk R hcl hpq hty h1 h2 hl hel hf k1
         ·rename_i l2 _ _ _;simp only[ι,C',υ]at j;obtain⟨k1,rfl,rfl⟩:=j;have htch:co T (.call cl) [.nil,x] fresh=ä fresh:=by simp only[co,hcl]
          have hf:=hho fresh htch;have hh:∀y,aS T (.call cl) [.nil,x] fresh c.heap y=c.heap.set fresh y:=λy=>by unfold aS;rw[htch]
          rw[hh];exact Fs hi tk R hcl hpq hty h1 h2 hl hel hf k1
        ·cases j
       ·cases j
      ·cases j
     ·cases j
    ·cases j
 |_=>simp[R]at j
def Tn (tk:TabOk P tab)(hi:Inv B U J c)(hv:RAs c C (o.op.operands.toList.map a.eval)){ho:HO}
  (R:∀k,co T o.op C fresh=ä k→c.heap[k]? = ä ho) {out:AV} {ho':HO} (g:ab1 tab o C ho=ä (ü,out,ho')):Ok P B U J o a c (aS T o.op C fresh c.heap ho') out:=by
 unfold ab1 at g;split at g
 next τ e v' l=>
  have j:∀k,co T o.op C fresh=ä k→aS T o.op C fresh c.heap (.cu τ e v' l)=c.heap:=λk hk=>by
   unfold aS;rw[hk];exact pq (R k hk)
  have after:∀k ho',co T o.op C fresh=ä k→aS T o.op C fresh c.heap ho'=c.heap.set k ho':=λk ho' hk=>by unfold aS;rw[hk]
  split at g
  next t x y hop=>
   rw[hop]at hv R j;split at g
   ·rename_i k v lo hi' q n;obtain⟨u,u',e1,h1,h2⟩:=fV (v:=a.eval x) (v':=a.eval y) hv;cases e1;split at g
    ·rename_i q1;subst q1;split at g
     ·rename_i q2;split at g
      ·simp at g;obtain⟨⟨k1,k2⟩,rfl,rfl⟩:=g;rw[hop,j k rfl];exact Se hi tk hop h1 h2 (R k rfl) q2 k1 k2
      ·cases g
     ·cases g
    ·cases g
   ·cases g
  next s x f hop=>
   rw[hop]at hv R j;split at g
   ·rename_i k v i off;obtain⟨u,e1,h1⟩:=dg (v:=a.eval x) hv;cases e1;split at g
    ·rename_i q1;subst q1;split at g
     next d hd=>cases g;rw[hop,j k rfl];exact Sf hi tk hop h1 (R k rfl) hd
     ·cases g
    ·cases g
   ·cases g
  next t x hop=>
   rw[hop]at hv R j;split at g
   ·rename_i k v i off;obtain⟨u,e1,h1⟩:=dg (v:=a.eval x) hv;cases e1;split at g
    ·rename_i q1;subst q1;split at g
     ·rename_i τ' ht;split at g
      next y hy=>cases g;rw[hop,j k rfl];exact Xe hi tk hop h1 (R k rfl) ht hy
      ·cases g
     ·cases g
    ·cases g
   ·cases g
  next t x y hop=>
   rw[hop]at hv R after;split at g
   ·rename_i k v i off u;obtain⟨u1,u2,e1,h1,h2⟩:=fV (v:=a.eval x) (v':=a.eval y) hv;cases e1;split at g
    ·rename_i q1;subst q1;split at g
     ·rename_i τ' ht;split at g
      ·rename_i d hd;split at g
       next z hz=>cases g;rw[hop,after k _ rfl];exact Sa hi tk hop h1 h2 (R k rfl) ht hd hz
       ·cases g
      ·cases g
     ·cases g
    ·cases g
   ·cases g
  next t x low high hop=>
   rw[hop]at hv R j;split at g
   ·rename_i k v lo hi' r;obtain⟨s,r',e1,h1,h2⟩:=uA (v:=a.eval x) (vs:=(low.toList++high.toList).map a.eval) (by cases low <;> cases high <;> simpa[Op.operands]using hv);cases e1;split at g
    ·rename_i q1;subst q1;split at g
     ·rename_i q2;split at g
      ·split at g
       next a1 b1 hb=>obtain⟨g1,g2⟩:=Ap hb h2;simp at g;obtain⟨k1,rfl,rfl⟩:=g;rw[hop,j k rfl];exact Sd hi tk hop h1 (R k rfl) q2 g1 g2 k1
       ·cases g
      ·cases g
     ·cases g
    ·cases g
   ·cases g
  next cl hop=>
   rw[hop]at hv R j after;split at g
   ·rename_i hcl;replace hv:RAs c C (cl.args.toList.map a.eval):=by simpa[Op.operands,Call.operands,hcl]using hv
    split at g
    ·rename_i k v lo hi';have hal:∃x,cl.args = #[x]:=by
      have:=hv.length;simp at this;exact al2.1 this.symm
     obtain⟨x,hx⟩:=hal;rw[hx]at hv;obtain⟨u,e1,hu⟩:=dg (v:=a.eval x) hv;cases e1;have htch:co T (.call cl) [.msl k v lo hi'] fresh=ä k:=by simp[co,hcl]
     split at g
     ·rename_i q1;subst q1;split at g
      ·rename_i q2;cases g;rw[hop,j k htch];cases hty:cl.argTypes[0]? with
       |none=>rw[hty]at q2;cases q2
       |some t =>rw[hty]at q2;exact aaB hi tk hop hcl hx hty hu (R k htch) q2
      ·cases g
     ·cases g
    ·cases g
   ·rename_i hcl;replace hv:RAs c C (cl.args.toList.map a.eval):=by simpa[Op.operands,Call.operands,hcl]using hv
    split at g
    ·rename_i k v m x t1 t2 htys;have hty:cl.argTypes = #[t1,t2]:=D_ (by simpa using htys);have hal:∃p q,cl.args = #[p,q]:=by
      have:=hv.length;simp at this;match h:cl.args.toList,(by simpa using this.symm:cl.args.toList.length=2)with
      |[p,q],_=>exact⟨p,q,D_ (by simpa using h)⟩
     obtain⟨p,q,hpq⟩:=hal;rw[hpq]at hv;obtain⟨u,u',e1,h1,h2⟩:=fV (v:=a.eval p) (v':=a.eval q) hv;cases e1;have htch:co T (.call cl) [.msl k v 0 m,x] fresh=ä k:=by simp[co,hcl]
     split at g
     ·rename_i e12;subst e12;split at g
      ·rename_i q1;subst q1;split at g
       ·rename_i e1 τ1 l' hel hl;split at g
        ·rename_i q2;subst q2;split at g
         next l2 hc=>obtain⟨et,hl2⟩:=cast?_some hc;cases et;have hl2:l2=l':=hl2;subst hl2;simp at g;obtain⟨k1,rfl,rfl⟩:=g;rw[hop,after k _ htch];obtain⟨ht,hxv⟩:=ga hl h2;exact OF hi tk hop hcl hpq hty h1 ht (CZ hxv) hel (R k htch) k1
         ·cases g
        ·cases g
       ·cases g
      ·cases g
     ·cases g
    ·cases g
   ·cases g
  ·cases g
 ·cases g
def Jv (p:TabOk P tab)(ts:SpecsOk P T)(hi:Inv B U J c)(hg:g=ü)(R:RAs c C (o.op.operands.toList.map a.eval)){ho:HO}
  (j:∀k,co T o.op C fresh=ä k→c.heap[k]? = ä ho) {out:AV} {f:HO} (l:eff tab T o g C fresh ho=ä (ü,out,f)):Ok P B U J o a c (aS T o.op C fresh c.heap f) out:=by
 unfold eff at l;split at l
 next r hr=>cases l;exact Tn p hi R j hr
 ·exact Tp p ts hi hg R j l
def To (p:TabOk P tab)(r:Inv B U J c)(j:RAs c C (o.op.operands.toList.map a.eval)){out:AV}(f:aih tab o C=ä out):Ok P B U J o a c c.heap out:=by
 unfold aih at f;split at f
 next t len parts hop=>
  rw[hop]at j;simp[Op.operands]at j;split at f
  next τ e ht hel=>
   split at f
   ·rename_i g;simp at g;split at f
    next l hl=>cases f;exact zk r p hop (by simpa using j) ht hel g.1.1 g.1.2 g.2 hl
    ·cases f
   ·cases f
  ·cases f
 ·cases f
end
