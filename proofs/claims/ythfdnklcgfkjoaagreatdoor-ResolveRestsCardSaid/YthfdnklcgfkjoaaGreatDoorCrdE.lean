/- The reference's crowds. -/
import Derived.Test.YthfdnklcgfkjoaaGreatDoorCrdC
import Derived.BigQuiet
import Derived.Deep.RegionLaw
set_option linter.all false
namespace Go.Proofs.YthfdnklcgfkjoaaGreatDoor.Abs
open Go Go.Proofs Go.RowKit Tryz
def akI (c:Cel):List Value:=[.int .i64 c.1,.int .i64 c.2.1,.int .i64 c.2.2.1.1,.bool c.2.2.1.2.1,.string ⟨c.2.2.1.2.2.1.toArray⟩,.int .i64 c.2.2.1.2.2.2.1]
variable{w w' :World}{St:Sb}{m:List Cel}{k q:Nat}{os:List Crg}{p:Bool}{C:Str}{r0:Int}
def ahj {c:Cel}{f:List Value}(h:Rep w St (toD aa c) f):f=akI c:=by obtain⟨c1,r1,rfl,⟨rfl,_⟩,c2,r2,rfl,⟨rfl,_⟩,c3,r3,rfl,⟨d1,s1,rfl,⟨rfl,_⟩,d2,s2,rfl,⟨rfl,_⟩,d3,s3,rfl,⟨rfl,_⟩,d4,s4,rfl,⟨rfl,_⟩,rfl⟩,rfl⟩:=h;rfl
def alE (w:World)(B:Nat)(A:Option Addr)(m:List Cel):Prop :=
 0<m.length→∃b g,A=some ⟨b,g,none⟩∧b<B∧∀k (h:k<m.length) f (_:f<6),w.cell? ⟨b,g+(k*6+f),none⟩=(akI m[k])[f]?
def afD (P:∀b o,St b o→b<w.heap.size){R:Value}(h:RepV w St aB (m,()) R):∃A c,R = .agg #[.slice A m.length c]∧m.length≤c∧alE w w.heap.size A m:=by
 unfold RepV at h;obtain⟨cs,rfl,r1,r2,rfl,h,rfl⟩:=h;obtain⟨A,c,rfl,hc,h⟩:=dI h;refine⟨A,c,rfl,hc,λU=>?_⟩;obtain h|⟨ad,p,rfl,J,T,g⟩:=h
 ·have h:m.length=0:=h;omega
 ·obtain⟨b,r,sp⟩:=ad;have J:sp=none:=J;subst J;have hl:p.length=m.length*6:=ba T;have C:aa.size=6:=rfl;refine⟨b,r,rfl, ?_,λk hk f hf=>?_⟩
  ·have j:0<p.length:=Ω
   exact P _ _ (g 0 _ (ζ j)).2
  ·have he:=u6 T k hk;have e6:=ahj he;rw[C]at e6;have l:p[k*6+f]? = (akI m[k])[f]?:=by
    rw[←e6,E',β hf,U']
   have j:k*6+f<p.length:=Ω
   obtain⟨h1,h2⟩:=g (k*6+f) _ (ζ j);rw[←l,ζ j,←h1,cH]
def Ws (w:World)(s:Value)(m:List Cel)(v i:Value)(f:World):Prop :=
 ∃k:Nat,k≤m.length∧i = .int .i64 k∧Below w.heap.size w f∧w.drawn≤f.drawn∧f.heap[w.heap.size]? = some (.cells #[s] 48 (0,0))∧∃os,COut (w.heap.size+1) f v os∧os.map (·.1)=iP (m.take k)
def Cz (m:List Cel)(h:k<m.length):iP (m.take (k+1))=kL (iP (m.take k)) m[k]:=by rw[iP,iP,d? h,List.foldl_append];rfl
def abr {b:Nat}{o f:Obj}(h:w.heap[b]? = some o):(w.alloc f).heap[b]? = some o:=by obtain⟨g,_⟩:=θ.1 h;rw[(O' w f none).block b g Ψ];exact h
def Ws.skip {f:World}{s v:Value}(j:k<m.length)(C:Below w.heap.size w f)(J:w.drawn≤f.drawn)(l:f.heap[w.heap.size]? = some (.cells #[s] 48 (0,0)))(g:COut (w.heap.size+1) f v os)(p:os.map (·.1)=iP (m.take k))(r:cF m[k]=false)(o:Obj) :
  Ws w s m v (.int .i64 ((k:Int)+1)) (f.alloc o) :=
 ⟨k+1,j,Ψ,C.alloc C.size _,J,abr l,os,g.kept (O' _ _ _),by rw[Cz m j,kL,r];exact p⟩
structure EnvC (w:World)(s:Value)(wr:World):Prop where
 below:Below w.heap.size w wr
 drawn:w.drawn≤wr.drawn
 box:wr.heap[w.heap.size]? = some (.cells #[s] 48 (0,0))
def EnvC.grown {w g f:World}{s:Value}{row:Option Nat}(h:EnvC w s g)(l:g.grownBy f row)(r:g.drawn≤f.drawn)(j:∀k,row=some k→w.heap.size+1≤k):EnvC w s f:=by refine⟨h.below.grown l h.below.size λk e=>Nat.le_of_succ_le (j k e),υ h.drawn r, ?_⟩;obtain⟨p,_⟩:=θ.1 h.box;rw[l.block _ p λe=>by have:=j _ e.symm;omega];exact h.box
def ad4 (i:Int):∀u∈[Value.int .i64 i],u.oneCell'=true:=λu h=>by rw[F'.1 h];rfl
def Bf (P:k<m.length)(J:os.map (·.1)=iP (m.take k)){R f0 g:Int}(HM:m[k]=(R,f0,(g,p,C,r0,()),()))(l:cF m[k]=true)(T:q≤os.length)
  (r:∀t (ht:t<os.length),t<q→ahd os[t].1.1 os[t].1.2.1 r0 g=true) (f:∀h:q<os.length,ahd os[q].1.1 os[q].1.2.1 r0 g=false∧¬(os[q].1.1=r0∧os[q].1.2.1=g)) (b c:Nat) :
  (os.take q++(((r0,g,[R]),b,c):Crg)::os.drop q).map (·.1)=iP (m.take (k+1)):=by
 rw[Cz m P,kL,l,HM,ξ,←J];rw[QD (k:=q) (by simpa using T) (λj U=>by rw[z?];exact r j Ω U) (λh=>by rw[z?];exact f (by simpa using h))];simp
def aem (J:k<m.length)(r:os.map (·.1)=iP (m.take k)){P f0 l:Int}(HM:m[k]=(P,f0,(l,p,C,r0,()),()))(f:cF m[k]=true)(hq:q<os.length)
  (g:∀t (ht:t<os.length),t<q→ahd os[t].1.1 os[t].1.2.1 r0 l=true) (ha:ahd os[q].1.1 os[q].1.2.1 r0 l=false) (T:os[q].1.1=r0) (R:os[q].1.2.1=l) {y:Crg} (U:y.1=(os[q].1.1,os[q].1.2.1,os[q].1.2.2++[P])) :
  (os.set q y).map (·.1)=iP (m.take (k+1)):=by
 rw[Cz m J,kL,f,HM,ξ,←r];rw[QF (k:=q) (by simpa using hq) (λj hj=>by rw[z?];exact g j Ω hj) (by rw[z?];exact ha) (by rw[z?];exact T) (by rw[z?];exact R)];rw[List.map_set,U,z?,T,R]
structure Alk (w w':World):Prop where
 heap:w'.heap=w.heap
 os:w'.os=w.os
 tape:w'.tape=w.tape
 output:w'.output=w.output
 drawn:w.drawn≤w'.drawn
def Alk.refl (w:World):Alk w w:=⟨rfl,rfl,rfl,rfl,δ _⟩
def Alk.drewN {w w':World}(h:Alk w w')(n:Nat):Alk w (w'.drewN n):=⟨h.heap,h.os,h.tape,h.output,υ h.drawn (T? _ _)⟩
def Alk.grown (h:Alk w w'):w.grownBy w' none:=⟨h.os,h.tape,h.output,by rw[h.heap];exact δ _,λk _ _=>by rw[h.heap]⟩
def Alk.cell (h:Alk w w')(a:Addr):w'.cell? a=w.cell? a:=by unfold World.cell?;rw[h.heap]
def arH (g:World)(os:List Crg)(j i:Value)(f:World):Prop :=
 ∃k:Nat,k≤os.length∧i = .int .i64 k∧g.grownBy f none∧g.drawn≤f.drawn∧f.ownsRow g.heap.size 66 5 j (CT (os.take k)).length (cq (CT (os.take k)))
def arK (w w':World)(m:List Cel)(v:Value):Prop :=
 Below w.heap.size w w'∧w.drawn≤w'.drawn∧∃os:List Crg,os.map (·.1)=iP m∧w'.ownsRow w.heap.size 66 5 v (CT os).length (cq (CT os))∧∀x∈os,w'.ownsRow w.heap.size 3 1 (slC x) x.1.2.2.length (qN x.1.2.2)
def arJ (g:World)(os:List Crg)(r n:Int)(j:Value)(f:World):Prop :=
 ∃q:Nat,q≤os.length∧j = .int .i64 q∧Alk g f∧∀t (l:t<os.length),t<q→ahd os[t].1.1 os[t].1.2.1 r n=true
set_option maxHeartbeats 4000000 in
set_option maxRecDepth 1000000 in
def SP (m:List Cel)(w:World)(A:Option Addr)(c:Nat)(hm:m.length≤1048576)(hc:m.length≤c)(hcs:alE w w.heap.size A m) :
  Calls prog 63 #[.agg #[.slice A m.length c]] w λe w'=>∃v,e = .returned v∧arK w w' m v:=by
 obtain⟨i66,z66,hi66,hz66,hs66,hy66,hc66⟩:=aiK;obtain⟨i3,hi3,hz3,hs3,hy3⟩:=amg
 go_enter func63,ntmps63
 go_wp2
 go_loopw [3,4] (λv i wr=>Ws w (.slice A m.length c) m v i wr) (λ_ i _=>m.length-(intOf i).toNat)
 case atStart=>exact⟨0,s_ _,rfl,(Below.refl _ _).alloc (δ _) _,δ _,B_ _ _,[],COut.nil _,rfl⟩
 case round=>
  obtain⟨k,hk,rfl,hb,hd,hbox,os,hout,hos⟩:=hrel;have hbc:=cell_of_one hbox;have hosl:os.length≤1048576:=by have:=ael (m.take k);rw[←hos]at this;simp at this;omega
  by_cases hlt:k<m.length
  ·obtain⟨b,off,rfl,hbl,hcell⟩:=hcs Ω;have hcw:∀f (_:f<6),wr.cell? ⟨b,off+(k*6+f),none⟩=(akI m[k])[f]?:=λf hf=>(X' (hb.block b hbl)).trans (hcell k hlt f hf);obtain⟨i0,f0,n0,p,C,r0,hmk⟩:∃(i0 f0 n0:Int) (p:Bool) (C:Str) (r0:Int),m[k]=(i0,f0,(n0,p,C,r0,()),()):=⟨m[k].1,m[k].2.1,m[k].2.2.1.1,m[k].2.2.1.2.1,m[k].2.2.1.2.2.1,m[k].2.2.1.2.2.2.1,rfl⟩;have HM:Hid (m[k]=(i0,f0,(n0,p,C,r0,()),())):=hmk;rw[hmk]at hcw;have hc0:wr.cell? ⟨b,off+k*6,none⟩=some (.int .i64 i0):=hcw 0 Ϛ;have hc1:wr.cell? ⟨b,off+k*6+1,none⟩=some (.int .i64 f0):=hcw 1 Ϛ;have hc2:wr.cell? ⟨b,off+k*6+2,none⟩=some (.int .i64 n0):=hcw 2 Ϛ;have hc3:wr.cell? ⟨b,off+k*6+3,none⟩=some (.bool p):=hcw 3 Ϛ;have hc4:wr.cell? ⟨b,off+k*6+4,none⟩=some (.string ⟨C.toArray⟩):=hcw 4 Ϛ;have hc5:wr.cell? ⟨b,off+k*6+5,none⟩=some (.int .i64 r0):=hcw 5 Ϛ;clear hcw hmk hcell;by_cases hf:f0=2
   ·subst hf;by_cases hr:r0=0
    ·have hno:cF m[k]=false:=by rw[HM];simp[cF,hr]
     go_wp2
     go_roundw
     case rel=>exact Ws.skip hlt hb hd hbox hout hos hno _
     case measure=>simp[intOf];omega
    have hr':(r0 == 0)=false:=W?.2 hr;by_cases hn1:1≤n0
    ·by_cases hn3:3<n0
     ·have hno:cF m[k]=false:=by rw[HM];show(decide ((2:Int)=2) && !decide (r0=0)&&decide (n0≥1)&&decide (n0≤3))=_;simp;omega
      go_wp2
      go_roundw
      case rel=>exact Ws.skip hlt hb hd hbox hout hos hno _
      case measure=>simp[intOf];omega
     have hyes:cF m[k]=true:=by rw[HM];show(decide ((2:Int)=2) && !decide (r0=0)&&decide (n0≥1)&&decide (n0≤3))=_;simp;omega
     go_wp2
     generalize hwi:wr.alloc (Obj.cells #[.int .i64 i0,.int .i64 2,.int .i64 n0,.bool p,.string ⟨C.toArray⟩,.int .i64 r0] 58)=wi;have U:=hout.kept (O' wr (Obj.cells #[.int .i64 i0,.int .i64 2,.int .i64 n0,.bool p,.string ⟨C.toArray⟩,.int .i64 r0] 58) none);have bx:(wr.alloc (Obj.cells #[.int .i64 i0,.int .i64 2,.int .i64 n0,.bool p,.string ⟨C.toArray⟩,.int .i64 r0] 58)).heap[wr.heap.size]? = some (.cells #[.int .i64 i0,.int .i64 2,.int .i64 n0,.bool p,.string ⟨C.toArray⟩,.int .i64 r0] 58 (0,0)):=B_ _ _;have hwis:wi.heap.size=wr.heap.size+1:=by rw[←hwi];simp
     rw[hwi]at U bx;have hbs0:=hb.size;have HE:EnvC w (.slice (some ⟨b,off,none⟩) m.length c) wi:=hwi ▸ (EnvC.mk hb hd hbox).grown (O' _ _ none) (δ _) (λ_ e=>by cases e);generalize hbs:wr.heap.size=J at *;have c0o:wi.cell? ⟨J,0,none⟩=some (.int .i64 i0):=by simp[World.cell?,bx]
     have c2o:wi.cell? ⟨J,2,none⟩=some (.int .i64 n0):=by simp[World.cell?,bx]
     have c5o:wi.cell? ⟨J,5,none⟩=some (.int .i64 r0):=by simp[World.cell?,bx]
     go_loopw [6] (λj wr2=>arJ wi os r0 n0 j wr2) (λj _=>os.length-(intOf j).toNat)
     case atStart=>exact⟨0,s_ _,rfl,Alk.refl _,λt _ h=>absurd h (ar4 t)⟩
     case round=>
      obtain⟨q,hq,rfl,hal,hpre⟩:=hrel;by_cases P:q<os.length
      ·rcases U.form with⟨_,e⟩|⟨g,cap,hv,hg1,hg2,hg3⟩
       ·rw[e]at P;exact absurd P (ar4 q)
       subst hv;obtain⟨x1,x2,xe,xg,xc,hx⟩:∃(x1 x2:Int) (xe:List Int) (xg xc:Nat),os[q]=((x1,x2,xe),xg,xc):=⟨_,_,_,_,_,rfl⟩;have k1:wi.cell? ⟨g,q*5+1,none⟩=some (.int .i64 x1):=by have:=U.cell P 1 Ϛ;rw[hx]at this;exact this
       have k2:wi.cell? ⟨g,q*5+2,none⟩=some (.int .i64 x2):=by have:=U.cell P 2 Ϛ;rw[hx]at this;exact this
       have k1:=(hal.cell _).trans k1;have k2:=(hal.cell _).trans k2;have c2:=(hal.cell _).trans c2o;have c5:=(hal.cell _).trans c5o;have hqi:(q:Int)<(os.length:Int):=Ω
       by_cases ha:ahd x1 x2 r0 n0=true
       ·go_wp2
        go_big_quiet (first|(go_at_call 48;refine Calls.quiet_of_same (D8 _ _ _ _ _)))
        go_wp2
        go_roundw
        case rel=>
         refine⟨q+1,P,Ψ,hal.drewN _,λt ht htq=>?_⟩;by_cases e:t=q
         ·subst e;rw[hx];exact ha
         ·exact hpre t ht Ω
        case measure=>simp[intOf];omega
       ·have ha:ahd x1 x2 r0 n0=false:=by simpa using ha
        go_wp2
        go_big_quiet (first|(go_at_call 48;refine Calls.quiet_of_same (D8 _ _ _ _ _)))
        go_wp2
        by_cases e1:x1=r0
        ·have e1:=e1.symm;subst e1;by_cases e2:x2=n0
         ·have e2:=e2.symm;subst e2
          go_big_quiet (fail)
          generalize hW:World.drewN wr _=W0;have halW0:Alk wi W0:=hW ▸ hal.drewN _;clear hW;generalize hW:World.drewN W0 _=W;have l:Alk wi W:=hW ▸ halW0.drewN _;clear hW halW0;have hWW:=U.kept l.grown;have hgwi:=(U.row.lt g rfl).2;have e0:W.cell? ⟨J,0,none⟩=some (.int .i64 i0):=(l.cell _).trans c0o;have eh:W.cell? ⟨g,q*5+4,none⟩=some (.slice (some ⟨xg,0,none⟩) xe.length xc):=by have:=hWW.cell P 4 Ϛ;rw[hx]at this;exact this
          have ef:W.frozen? ⟨g,q*5+4,none⟩=false:=hWW.row.frozenAt _;have hu:=Oz eh;have HS:Hid (Skp J g (q*5+4) (.int .i64 i0) W):=⟨e0,wZ eh,ef⟩;have eh':=wZ eh;have Hent:Hid (∀W',W.grownBy W' none→W'.ownsRow (w.heap.size+1) 3 1 (JA W ⟨g,q*5+4,none⟩) xe.length (qN xe)):=λW' h=>by have:=(hWW.kept h).ent os[q] (r_ P);rw[hx]at this;rw[hu];exact this
          have hxm:os[q]∈os:=r_ P;have hxl:Hid (xe.length+1≤1048577):=by
           have h1:os[q].1∈iP (m.take k):=hos ▸ List.mem_map_of_mem hxm;have h2:=aen h1;rw[hx]at h2;have h3:(m.take k).length≤m.length:=by simp;omega
           show xe.length+1≤_;have h2:xe.length≤_:=h2;omega
          have hbw:J<W.heap.size:=by rw[l.heap,hwis];omega
          have hgw:g<W.heap.size:=by rw[l.heap];exact hgwi
          have hxgb:w.heap.size+1≤xg∧xg≠g∧xg≠J:=by have h1:=(hout.ent _ hxm).lt xg (by rw[hx];rfl);have h2:=hout.sep _ hxm;rw[hx]at h2;refine⟨h1.1,λe=>h2 (by rw[e];rfl), ?_⟩;rw[hbs]at h1;omega
          have hne:Hid (some J≠(JA W ⟨g,q*5+4,none⟩).ownBlock):=by intro e;rw[hu]at e;simp[Value.ownBlock]at e;omega
          have hneg:Hid (some g≠(JA W ⟨g,q*5+4,none⟩).ownBlock):=by intro e;rw[hu]at e;simp[Value.ownBlock]at e;omega
          have hq1:Hid (xe.length+1≤maxLen):=by have:=hxl.out;show xe.length+1≤maxLen;unfold maxLen;omega
          have hq2:Hid ((xe.length+1)*8≤140737488355328):=by have:=hxl.out;show(xe.length+1)*8≤_;omega
          have hB2:Hid (w.heap.size+1≤W.heap.size):=by show w.heap.size+1≤W.heap.size;rw[l.heap];omega
          have hqc:q<os.length:=P;clear hwis eh
          go_wp2
          have hbg:Hid (J≠g):=by have hg:=(hout.row.lt g rfl).2;show J≠g;omega
          have hcel:Hid (JA (W.alloc (.cells #[.int .i64 i0] 3)).drew ⟨g,q*5+4,none⟩=JA W ⟨g,q*5+4,none⟩):=Oz ((X' (aob hgw)).trans eh');clear eh';have hcl:=HS.out.2.1
          go_region_law (first|(refine bF _ rfl (.tmp 100) (.tmp 103) 39 rfl (w.heap.size+1) 3 i3 (.int .i64 0) 1 8 underlying39 hi3 hz3 hs3 hy3 rfl Ϛ (JA W ⟨g,q*5+4,none⟩) xe.length (qN xe) (by first|rfl|exact hcel.out|exact hu.symm) (Hent.out _ (lP W _)) _ 1 1 [.int .i64 i0] rfl rfl (.inr ⟨_,rfl,ZN _ _ _⟩) (ad4 i0) hq1.out hq2.out (υ hB2.out (lP W _).size) ?_;intro v4 w4 h4 g4 a4 d4;have s4:=qc (lP W _) g4 hbw hne.out;have t4:=qc (lP W _) g4 hgw hneg.out;obtain⟨g6,c6,hv6⟩:=adl h4;subst hv6;have S4:Hid (Skp J g (q*5+4) (.int .i64 i0) w4):=HS.out.same s4 t4;have z0:=S4.out.1;have z1:=S4.out.2.1;have z2:=S4.out.2.2))
          all_goals (
           go_wp2
           go_roundw
           case rel =>obtain⟨y,hy,hv4,hO⟩:=(hWW.kept (lP W (.cells #[.int .i64 i0] 3))).ext (id:=i0) (w1:=w4) P (by rw[hx];exact h4) (by rw[hx];rw[hu]at g4;exact g4) (by rw[hx];rw[hu]at a4;exact a4);have E4:=((HE.grown l.grown l.drawn (λ_ e=>by cases e)).grown (lP W (.cells #[.int .i64 i0] 3)) (j? _) (λ_ e=>by cases e)).grown g4 d4 (λk e=>by rw[hu]at e;simp[Value.ownBlock]at e;omega);have E5:=E4.grown (aaN w4 ⟨g,q*5+4,none⟩ (.slice (some ⟨g6,0,none⟩) (xe.length+1) c6)) (δ _) (λk e=>by simp at e;omega);exact⟨k+1,hlt,Ψ,E5.below,E5.drawn,E5.box,_,by simpa using hO,aem hlt hos HM.out hyes P hpre (by rw[hx];exact ha) (by rw[hx]) (by rw[hx]) hy⟩
           case measure=>simp[intOf];omega)
         ·have e2':(x2 == n0)=false:=W?.2 e2
          go_big_quiet (fail)
          generalize hW:World.drewN wr _=W;have l:Alk wi W:=hW ▸ hal.drewN _;clear hW;have T:=U.kept l.grown;have HWs:Hid (W.heap.size=J+1):=by rw[l.heap,hwis];exact rfl
          clear hwis
          go_wp2_with (first|(at_builtin;refine cR _ rfl (.tmp 107) (.tmp 110) 34 rfl (w.heap.size+1) 66 i66 z66 5 72 underlying34 hi66 hz66 hs66 hy66 hc66 Ϛ (.slice (some ⟨W.heap.size,0,none⟩) 0 0) 0 [] rfl ?o1 _ (os.length-q) _ (cq (os.drop q)) rfl ?o2 ?o3 ?o4 ?o5 ?o6 ?o7 ?_))
          case o1=>exact asb _ #[] 0 (by show _≤W.heap.size;have:=HWs.out;omega) (s_ _) rfl
          case o2=>rw[gp];simp
          case o3=>
           have X:=(T.kept (cV (Alk.drewN (Alk.refl W) nq).grown (O' (W.drewN nq) (.cells #[] 66) none))).drop_cells (c? P);first|exact .inr X|exact .inr ⟨_,rfl,λj u h=>by rw[cH];exact X j u h⟩
          case o4=>exact mG _
          case o5=>unfold maxLen;omega
          case o6=>omega
          case o7=>have:=HWs.out;simp;omega
          intro v2 r hown2 hg2 hat2 hd2;have R:W.grownBy r none:=sE (cV (Alk.drewN (Alk.refl W) _).grown (O' _ _ none)) hg2 rfl (δ _);have hW2:=T.kept R;have e0:r.cell? ⟨J,0,none⟩=some (.int .i64 i0):=R.cell ((l.cell _).trans c0o) Ψ;have e2c:r.cell? ⟨J,2,none⟩=some (.int .i64 n0):=R.cell ((l.cell _).trans c2o) Ψ;have e5:r.cell? ⟨J,5,none⟩=some (.int .i64 r0):=R.cell ((l.cell _).trans c5o) Ψ;have hbw:J<r.heap.size:=by have:=R.size;have:=HWs.out;omega
          obtain⟨g2,c2',hv2⟩:∃g2 c2',v2 = .slice (some ⟨g2,0,none⟩) (os.length-q) c2':=by
           rcases hown2.2 with⟨e,_⟩|⟨g2,c2',_,e,_⟩
           ·rw[e]at hat2;obtain h|h:=hat2 <;> cases h
           ·exact⟨g2,c2',e⟩
          subst hv2;have hg2g:g2≠g:=by have:=HWs.out;have hg:=(T.row.lt g rfl).2;obtain h|h:=hat2 <;> simp[Value.ownBlock]at h <;> omega
          clear hg2 hat2;have hqc:(q:Int)≤(cap:Int):=Ω
          have Hfront:Hid (∀W',r.grownBy W' none→W'.ownsRow (w.heap.size+1) 66 5 (.slice (some ⟨g,0,none⟩) q cap) q (cq (os.take q))):=λW' h=>(hW2.kept h).front (c? P);have HS:Hid (∀W':World,W'.heap[J]? = r.heap[J]? → W'.cell? ⟨J,0,none⟩=some (.int .i64 i0)∧W'.cell? ⟨J,2,none⟩=some (.int .i64 n0)∧W'.cell? ⟨J,5,none⟩=some (.int .i64 r0)):=λW' h=>⟨(X' h).trans e0,(X' h).trans e2c,(X' h).trans e5⟩;have hne4:Hid (some J≠(Value.slice (some ⟨g,0,none⟩) q cap).ownBlock):=by intro e;have hg:=(hout.row.lt g rfl).2;simp[Value.ownBlock]at e;omega
          have hneg:Hid ((Value.slice (some ⟨g2,0,none⟩) (os.length-q) c2').ownBlock≠(Value.slice (some ⟨g,0,none⟩) q cap).ownBlock):=by intro e;simp[Value.ownBlock]at e;exact hg2g e
          have hq1:Hid (q+1≤maxLen):=by show q+1≤maxLen;unfold maxLen;omega
          have hq2:Hid ((q+1)*72≤140737488355328):=by show(q+1)*72≤_;omega
          have hq3:Hid (q+1+(os.length-q)≤maxLen):=by show q+1+(os.length-q)≤maxLen;unfold maxLen;omega
          have hq4:Hid ((q+1+(os.length-q))*72≤140737488355328):=by show(q+1+(os.length-q))*72≤_;omega
          have hB2:Hid (w.heap.size+1≤r.heap.size):=by show w.heap.size+1≤r.heap.size;have:=R.size;have:=HWs.out;omega
          have hl2:Hid ((cq (os.drop q)).length=(os.length-q)*5):=by show(cq (os.drop q)).length=_;rw[gp];simp
          go_wp2
          go_region_held3 (λw'=>w'.cell? ⟨J,0,none⟩=some (.int .i64 i0)∧w'.cell? ⟨J,2,none⟩=some (.int .i64 n0)∧w'.cell? ⟨J,5,none⟩=some (.int .i64 r0)) (first|go_keep|exact HS.out _ (by assumption))
           (first
            |(refine bF _ rfl (.tmp 114) (.tmp 125) 34 rfl (w.heap.size+1) 66 i66 z66 5 72 underlying34 hi66 hz66 hs66 hy66 hc66 Ϛ (.slice (some ⟨g,0,none⟩) q cap) q (cq (os.take q)) rfl (Hfront.out _ (aN r _ _)) _ 1 1 (dj ((r0,n0,[i0]),r.heap.size,1)) rfl rfl (.inr ⟨_,rfl,vG _ _ _ _⟩) (nD _) hq1.out hq2.out (υ hB2.out (aN r _ _).size) ?_;intro v4 w4 h4 g4 a4 d4;have s4:=qc (aN r _ _) g4 hbw hne4.out;have r4:=adU hown2 (aN r _ _) g4 hneg.out;have n4:=XA a4 hne4.out (J' hbw (aN r _ _).size);have l4:=J' (J' hbw (aN r _ _).size) g4.size)
            |(refine bF _ rfl (.tmp 126) (.tmp 127) 34 rfl (w.heap.size+1) 66 i66 z66 5 72 underlying34 hi66 hz66 hs66 hy66 hc66 Ϛ v4 (q+1) (cq (os.take q)++dj ((r0,n0,[i0]),r.heap.size,1)) rfl h4 _ (os.length-q) c2' (cq (os.drop q)) rfl hl2.out (.inr ⟨_,rfl,r4.cells (g:=g2) rfl⟩) (mG _) hq3.out hq4.out (υ (υ hB2.out (aN r _ _).size) g4.size) ?_;intro v5 w5 h5 g5 a5 d5;have s5:=(g5.block J l4 n4).trans s4))
          go_wp2
          go_roundw
          case rel =>have E2:=(HE.grown l.grown l.drawn (λ_ e=>by cases e)).grown R (υ (T? _ _) hd2) (λ_ e=>by cases e);have E4:=(E2.grown (aN r _ _) (j? _) (λ_ e=>by cases e)).grown g4 d4 (λk e=>by simp[Value.ownBlock]at e;omega);have E5:=E4.grown g5 d5 (λk e=>(h4.lt k e).1);refine⟨k+1,hlt,Ψ,E5.below,E5.drawn,E5.box,_, ?_,Bf hlt hos HM.out hyes (c? P) hpre (λ_=>by rw[hx];exact⟨ha,λh=>e2 h.2⟩) r.heap.size 1⟩;exact hW2.ins (c? P) (aN r _ _) (δ _) (by rw[show(((r.alloc _).alloc _).drew).heap.size=_ from size_alloc _ _,size_alloc];omega) ((Et r #[.int .i64 i0] 3 (n:=1) (size:=1) rfl hB2.out (by unfold maxLen;omega)).kept (cV (O' _ _ none) (gQ _)) (.inr (by simp[Value.ownBlock]))) (.inl rfl) g4 a4 h5 g5 a5
          case measure=>simp[intOf];omega
        ·have e1':(x1 == r0)=false:=W?.2 e1
         go_big_quiet (fail)
         generalize hW:World.drewN wr _=W;have l:Alk wi W:=hW ▸ hal.drewN _;clear hW;have T:=U.kept l.grown;have HWs:Hid (W.heap.size=J+1):=by rw[l.heap,hwis];exact rfl
         clear hwis
         go_wp2_with (first|(at_builtin;refine cR _ rfl (.tmp 107) (.tmp 110) 34 rfl (w.heap.size+1) 66 i66 z66 5 72 underlying34 hi66 hz66 hs66 hy66 hc66 Ϛ (.slice (some ⟨W.heap.size,0,none⟩) 0 0) 0 [] rfl ?o1 _ (os.length-q) _ (cq (os.drop q)) rfl ?o2 ?o3 ?o4 ?o5 ?o6 ?o7 ?_))
         case o1=>exact asb _ #[] 0 (by show _≤W.heap.size;have:=HWs.out;omega) (s_ _) rfl
         case o2=>rw[gp];simp
         case o3=>
          have X:=(T.kept (cV (Alk.drewN (Alk.refl W) nq).grown (O' (W.drewN nq) (.cells #[] 66) none))).drop_cells (c? P);first|exact .inr X|exact .inr ⟨_,rfl,λj u h=>by rw[cH];exact X j u h⟩
         case o4=>exact mG _
         case o5=>unfold maxLen;omega
         case o6=>omega
         case o7=>have:=HWs.out;simp;omega
         intro v2 r hown2 hg2 hat2 hd2;have R:W.grownBy r none:=sE (cV (Alk.drewN (Alk.refl W) _).grown (O' _ _ none)) hg2 rfl (δ _);have hW2:=T.kept R;have e0:r.cell? ⟨J,0,none⟩=some (.int .i64 i0):=R.cell ((l.cell _).trans c0o) Ψ;have e2c:r.cell? ⟨J,2,none⟩=some (.int .i64 n0):=R.cell ((l.cell _).trans c2o) Ψ;have e5:r.cell? ⟨J,5,none⟩=some (.int .i64 r0):=R.cell ((l.cell _).trans c5o) Ψ;have hbw:J<r.heap.size:=by have:=R.size;have:=HWs.out;omega
         obtain⟨g2,c2',hv2⟩:∃g2 c2',v2 = .slice (some ⟨g2,0,none⟩) (os.length-q) c2':=by
          rcases hown2.2 with⟨e,_⟩|⟨g2,c2',_,e,_⟩
          ·rw[e]at hat2;obtain h|h:=hat2 <;> cases h
          ·exact⟨g2,c2',e⟩
         subst hv2;have hg2g:g2≠g:=by have:=HWs.out;have hg:=(T.row.lt g rfl).2;obtain h|h:=hat2 <;> simp[Value.ownBlock]at h <;> omega
         clear hg2 hat2;have hqc:(q:Int)≤(cap:Int):=Ω
         have Hfront:Hid (∀W',r.grownBy W' none→W'.ownsRow (w.heap.size+1) 66 5 (.slice (some ⟨g,0,none⟩) q cap) q (cq (os.take q))):=λW' h=>(hW2.kept h).front (c? P);have HS:Hid (∀W':World,W'.heap[J]? = r.heap[J]? → W'.cell? ⟨J,0,none⟩=some (.int .i64 i0)∧W'.cell? ⟨J,2,none⟩=some (.int .i64 n0)∧W'.cell? ⟨J,5,none⟩=some (.int .i64 r0)):=λW' h=>⟨(X' h).trans e0,(X' h).trans e2c,(X' h).trans e5⟩;have hne4:Hid (some J≠(Value.slice (some ⟨g,0,none⟩) q cap).ownBlock):=by intro e;have hg:=(hout.row.lt g rfl).2;simp[Value.ownBlock]at e;omega
         have hneg:Hid ((Value.slice (some ⟨g2,0,none⟩) (os.length-q) c2').ownBlock≠(Value.slice (some ⟨g,0,none⟩) q cap).ownBlock):=by intro e;simp[Value.ownBlock]at e;exact hg2g e
         have hq1:Hid (q+1≤maxLen):=by show q+1≤maxLen;unfold maxLen;omega
         have hq2:Hid ((q+1)*72≤140737488355328):=by show(q+1)*72≤_;omega
         have hq3:Hid (q+1+(os.length-q)≤maxLen):=by show q+1+(os.length-q)≤maxLen;unfold maxLen;omega
         have hq4:Hid ((q+1+(os.length-q))*72≤140737488355328):=by show(q+1+(os.length-q))*72≤_;omega
         have hB2:Hid (w.heap.size+1≤r.heap.size):=by show w.heap.size+1≤r.heap.size;have:=R.size;have:=HWs.out;omega
         have hl2:Hid ((cq (os.drop q)).length=(os.length-q)*5):=by show(cq (os.drop q)).length=_;rw[gp];simp
         go_wp2
         go_region_held3 (λw'=>w'.cell? ⟨J,0,none⟩=some (.int .i64 i0)∧w'.cell? ⟨J,2,none⟩=some (.int .i64 n0)∧w'.cell? ⟨J,5,none⟩=some (.int .i64 r0)) (first|go_keep|exact HS.out _ (by assumption))
          (first
           |(refine bF _ rfl (.tmp 114) (.tmp 125) 34 rfl (w.heap.size+1) 66 i66 z66 5 72 underlying34 hi66 hz66 hs66 hy66 hc66 Ϛ (.slice (some ⟨g,0,none⟩) q cap) q (cq (os.take q)) rfl (Hfront.out _ (aN r _ _)) _ 1 1 (dj ((r0,n0,[i0]),r.heap.size,1)) rfl rfl (.inr ⟨_,rfl,vG _ _ _ _⟩) (nD _) hq1.out hq2.out (υ hB2.out (aN r _ _).size) ?_;intro v4 w4 h4 g4 a4 d4;have s4:=qc (aN r _ _) g4 hbw hne4.out;have r4:=adU hown2 (aN r _ _) g4 hneg.out;have n4:=XA a4 hne4.out (J' hbw (aN r _ _).size);have l4:=J' (J' hbw (aN r _ _).size) g4.size)
           |(refine bF _ rfl (.tmp 126) (.tmp 127) 34 rfl (w.heap.size+1) 66 i66 z66 5 72 underlying34 hi66 hz66 hs66 hy66 hc66 Ϛ v4 (q+1) (cq (os.take q)++dj ((r0,n0,[i0]),r.heap.size,1)) rfl h4 _ (os.length-q) c2' (cq (os.drop q)) rfl hl2.out (.inr ⟨_,rfl,r4.cells (g:=g2) rfl⟩) (mG _) hq3.out hq4.out (υ (υ hB2.out (aN r _ _).size) g4.size) ?_;intro v5 w5 h5 g5 a5 d5;have s5:=(g5.block J l4 n4).trans s4))
         go_wp2
         go_roundw
         case rel =>have E2:=(HE.grown l.grown l.drawn (λ_ e=>by cases e)).grown R (υ (T? _ _) hd2) (λ_ e=>by cases e);have E4:=(E2.grown (aN r _ _) (j? _) (λ_ e=>by cases e)).grown g4 d4 (λk e=>by simp[Value.ownBlock]at e;omega);have E5:=E4.grown g5 d5 (λk e=>(h4.lt k e).1);refine⟨k+1,hlt,Ψ,E5.below,E5.drawn,E5.box,_, ?_,Bf hlt hos HM.out hyes (c? P) hpre (λ_=>by rw[hx];exact⟨ha,λh=>e1 h.1⟩) r.heap.size 1⟩;exact hW2.ins (c? P) (aN r _ _) (δ _) (by rw[show(((r.alloc _).alloc _).drew).heap.size=_ from size_alloc _ _,size_alloc];omega) ((Et r #[.int .i64 i0] 3 (n:=1) (size:=1) rfl hB2.out (by unfold maxLen;omega)).kept (cV (O' _ _ none) (gQ _)) (.inr (by simp[Value.ownBlock]))) (.inl rfl) g4 a4 h5 g5 a5
         case measure=>simp[intOf];omega
      ·rcases U.form with⟨hv,hos0⟩|⟨g,cap,hv,hg1,hg2,hg3⟩
       ·subst hv;subst hos0;have e0:q=0:=by simpa using hq
        subst e0
        go_wp2
        go_big_quiet (fail)
        go_wp2
        go_big_quiet (fail)
        generalize hW:World.drewN wr _=W;have l:Alk wi W:=hW ▸ hal.drewN _;clear hW;have T:=U.kept l.grown;have HWs:Hid (W.heap.size=J+1):=by rw[l.heap,hwis];exact rfl
        clear hwis
        go_wp2
        generalize hW3:World.alloc (World.drewN W _) (Obj.cells #[] 66)=r;have R:W.grownBy r none:=hW3 ▸ cV (Alk.drewN (Alk.refl W) _).grown (O' _ _ none);have hd2:W.drawn≤r.drawn:=hW3 ▸ T? _ _;clear hW3;have hW2:=T.kept R;have e0:r.cell? ⟨J,0,none⟩=some (.int .i64 i0):=R.cell ((l.cell _).trans c0o) Ψ;have e2c:r.cell? ⟨J,2,none⟩=some (.int .i64 n0):=R.cell ((l.cell _).trans c2o) Ψ;have e5:r.cell? ⟨J,5,none⟩=some (.int .i64 r0):=R.cell ((l.cell _).trans c5o) Ψ;have hbw:J<r.heap.size:=by have:=R.size;have:=HWs.out;omega
        have HS:Hid (∀W':World,W'.heap[J]? = r.heap[J]? → W'.cell? ⟨J,0,none⟩=some (.int .i64 i0)∧W'.cell? ⟨J,2,none⟩=some (.int .i64 n0)∧W'.cell? ⟨J,5,none⟩=some (.int .i64 r0)):=λW' h=>⟨(X' h).trans e0,(X' h).trans e2c,(X' h).trans e5⟩;have hne4:Hid (some J≠(Value.slice none 0 0).ownBlock):=λe=>by cases e
        have hB2:Hid (w.heap.size+1≤r.heap.size):=by show w.heap.size+1≤r.heap.size;have:=R.size;have:=HWs.out;omega
        go_region_held3 (λw'=>w'.cell? ⟨J,0,none⟩=some (.int .i64 i0)∧w'.cell? ⟨J,2,none⟩=some (.int .i64 n0)∧w'.cell? ⟨J,5,none⟩=some (.int .i64 r0)) (first|go_keep|exact HS.out _ (by assumption))
         (first
          |(refine bF _ rfl (.tmp 114) (.tmp 125) 34 rfl (w.heap.size+1) 66 i66 z66 5 72 underlying34 hi66 hz66 hs66 hy66 hc66 Ϛ (.slice none 0 0) 0 [] rfl (D_ _ _ _ _) _ 1 1 (dj ((r0,n0,[i0]),r.heap.size,1)) rfl rfl (.inr ⟨_,rfl,vG _ _ _ _⟩) (nD _) Ϛ Ϛ (υ hB2.out (aN r _ _).size) ?_;intro v4 w4 h4 g4 a4 d4;have s4:=qc (aN r _ _) g4 hbw hne4.out;have n4:=XA a4 hne4.out (J' hbw (aN r _ _).size);have l4:=J' (J' hbw (aN r _ _).size) g4.size)
          |(refine bF _ rfl (.tmp 126) (.tmp 127) 34 rfl (w.heap.size+1) 66 i66 z66 5 72 underlying34 hi66 hz66 hs66 hy66 hc66 Ϛ v4 (0+1) ([]++dj ((r0,n0,[i0]),r.heap.size,1)) rfl h4 _ 0 0 [] rfl rfl (.inl rfl) (λ_ h=>by cases h) Ϛ Ϛ (υ (υ hB2.out (aN r _ _).size) g4.size) ?_;intro v5 w5 h5 g5 a5 d5;have s5:=(g5.block J l4 n4).trans s4))
        go_wp2
        go_roundw
        case rel =>have E2:=(HE.grown l.grown l.drawn (λ_ e=>by cases e)).grown R hd2 (λ_ e=>by cases e);have E4:=(E2.grown (aN r _ _) (j? _) (λ_ e=>by cases e)).grown g4 d4 (λk e=>by cases e);have E5:=E4.grown g5 d5 (λk e=>(h4.lt k e).1);refine⟨k+1,hlt,Ψ,E5.below,E5.drawn,E5.box,_, ?_,Bf hlt hos HM.out hyes (s_ _) (λ_ h=>absurd h (ar4 _)) (λh=>absurd h (ar4 _)) r.heap.size 1⟩;exact hW2.ins (s_ _) (aN r _ _) (δ _) (by rw[show(((r.alloc _).alloc _).drew).heap.size=_ from size_alloc _ _,size_alloc];omega) ((Et r #[.int .i64 i0] 3 (n:=1) (size:=1) rfl hB2.out (by unfold maxLen;omega)).kept (cV (O' _ _ none) (gQ _)) (.inr (by simp[Value.ownBlock]))) (.inl rfl) g4 a4 h5 g5 a5
        case measure=>simp[intOf];omega
       ·subst hv;have hqi:((q:Int)<(os.length:Int))=False:=by simp;omega
        have e0:Hid (q=os.length):=by show q=os.length;omega
        have hvc:Hid (∀h:cap=q,Value.slice (some ⟨g,0,none⟩) q q = .slice (some ⟨g,0,none⟩) q cap):=λh=>by rw[h]
        by_cases hcq:cap=q <;> (
         go_wp2
         go_big_quiet (fail)
         go_wp2
         go_big_quiet (fail)
         generalize hW:World.drewN wr _=W;have l:Alk wi W:=hW ▸ hal.drewN _;clear hW;have T:=U.kept l.grown;have HWs:Hid (W.heap.size=J+1):=by rw[l.heap,hwis];exact rfl
         clear hwis
         go_wp2_with (first|(at_builtin;refine cR _ rfl (.tmp 107) (.tmp 110) 34 rfl (w.heap.size+1) 66 i66 z66 5 72 underlying34 hi66 hz66 hs66 hy66 hc66 Ϛ (.slice (some ⟨W.heap.size,0,none⟩) 0 0) 0 [] rfl ?o1 _ (os.length-q) _ (cq (os.drop q)) rfl ?o2 ?o3 ?o4 ?o5 ?o6 ?o7 ?_))
         case o1=>exact asb _ #[] 0 (by show _≤W.heap.size;have:=HWs.out;omega) (s_ _) rfl
         case o2=>rw[gp];simp
         case o3=>exact .inl Ω
         case o4=>exact mG _
         case o5=>unfold maxLen;omega
         case o6=>omega
         case o7=>have:=HWs.out;simp;omega
         intro v2 r hown2 hg2 hat2 hd2;have R:W.grownBy r none:=sE (cV (Alk.drewN (Alk.refl W) _).grown (O' _ _ none)) hg2 rfl (δ _);have hW2:=T.kept R;have e0:r.cell? ⟨J,0,none⟩=some (.int .i64 i0):=R.cell ((l.cell _).trans c0o) Ψ;have e2c:r.cell? ⟨J,2,none⟩=some (.int .i64 n0):=R.cell ((l.cell _).trans c2o) Ψ;have e5:r.cell? ⟨J,5,none⟩=some (.int .i64 r0):=R.cell ((l.cell _).trans c5o) Ψ;have hbw:J<r.heap.size:=by have:=R.size;have:=HWs.out;omega
         obtain⟨g2,c2',hv2⟩:∃g2 c2',v2 = .slice (some ⟨g2,0,none⟩) (os.length-q) c2':=by
          rcases hown2.2 with⟨e,_⟩|⟨g2,c2',_,e,_⟩
          ·rw[e]at hat2;obtain h|h:=hat2 <;> cases h
          ·exact⟨g2,c2',e⟩
         subst hv2;have hg2g:g2≠g:=by have:=HWs.out;have hg:=(T.row.lt g rfl).2;obtain h|h:=hat2 <;> simp[Value.ownBlock]at h <;> omega
         clear hg2 hat2;have hqc:(q:Int)≤(cap:Int):=Ω
         have Hfront:Hid (∀W',r.grownBy W' none→W'.ownsRow (w.heap.size+1) 66 5 (.slice (some ⟨g,0,none⟩) q cap) q (cq (os.take q))):=λW' h=>(hW2.kept h).front hq;have HS:Hid (∀W':World,W'.heap[J]? = r.heap[J]? → W'.cell? ⟨J,0,none⟩=some (.int .i64 i0)∧W'.cell? ⟨J,2,none⟩=some (.int .i64 n0)∧W'.cell? ⟨J,5,none⟩=some (.int .i64 r0)):=λW' h=>⟨(X' h).trans e0,(X' h).trans e2c,(X' h).trans e5⟩;have hne4:Hid (some J≠(Value.slice (some ⟨g,0,none⟩) q cap).ownBlock):=by intro e;have hg:=(hout.row.lt g rfl).2;simp[Value.ownBlock]at e;omega
         have hneg:Hid ((Value.slice (some ⟨g2,0,none⟩) (os.length-q) c2').ownBlock≠(Value.slice (some ⟨g,0,none⟩) q cap).ownBlock):=by intro e;simp[Value.ownBlock]at e;exact hg2g e
         have hq1:Hid (q+1≤maxLen):=by show q+1≤maxLen;unfold maxLen;omega
         have hq2:Hid ((q+1)*72≤140737488355328):=by show(q+1)*72≤_;omega
         have hq3:Hid (q+1+(os.length-q)≤maxLen):=by show q+1+(os.length-q)≤maxLen;unfold maxLen;omega
         have hq4:Hid ((q+1+(os.length-q))*72≤140737488355328):=by show(q+1+(os.length-q))*72≤_;omega
         have hB2:Hid (w.heap.size+1≤r.heap.size):=by show w.heap.size+1≤r.heap.size;have:=R.size;have:=HWs.out;omega
         have hl2:Hid ((cq (os.drop q)).length=(os.length-q)*5):=by show(cq (os.drop q)).length=_;rw[gp];simp
         go_wp2
         go_region_held3 (λw'=>w'.cell? ⟨J,0,none⟩=some (.int .i64 i0)∧w'.cell? ⟨J,2,none⟩=some (.int .i64 n0)∧w'.cell? ⟨J,5,none⟩=some (.int .i64 r0)) (first|go_keep|exact HS.out _ (by assumption))
          (first
           |(refine bF _ rfl (.tmp 114) (.tmp 125) 34 rfl (w.heap.size+1) 66 i66 z66 5 72 underlying34 hi66 hz66 hs66 hy66 hc66 Ϛ (.slice (some ⟨g,0,none⟩) q cap) q (cq (os.take q)) (by first|rfl|exact hvc.out hcq) (Hfront.out _ (aN r _ _)) _ 1 1 (dj ((r0,n0,[i0]),r.heap.size,1)) rfl rfl (.inr ⟨_,rfl,vG _ _ _ _⟩) (nD _) hq1.out hq2.out (υ hB2.out (aN r _ _).size) ?_;intro v4 w4 h4 g4 a4 d4;have s4:=qc (aN r _ _) g4 hbw hne4.out;have r4:=adU hown2 (aN r _ _) g4 hneg.out;have n4:=XA a4 hne4.out (J' hbw (aN r _ _).size);have l4:=J' (J' hbw (aN r _ _).size) g4.size)
           |(refine bF _ rfl (.tmp 126) (.tmp 127) 34 rfl (w.heap.size+1) 66 i66 z66 5 72 underlying34 hi66 hz66 hs66 hy66 hc66 Ϛ v4 (q+1) (cq (os.take q)++dj ((r0,n0,[i0]),r.heap.size,1)) rfl h4 _ (os.length-q) c2' (cq (os.drop q)) rfl hl2.out (.inr ⟨_,rfl,r4.cells (g:=g2) rfl⟩) (mG _) hq3.out hq4.out (υ (υ hB2.out (aN r _ _).size) g4.size) ?_;intro v5 w5 h5 g5 a5 d5;have s5:=(g5.block J l4 n4).trans s4))
         go_wp2
         go_roundw
         case rel =>have E2:=(HE.grown l.grown l.drawn (λ_ e=>by cases e)).grown R (υ (T? _ _) hd2) (λ_ e=>by cases e);have E4:=(E2.grown (aN r _ _) (j? _) (λ_ e=>by cases e)).grown g4 d4 (λk e=>by simp[Value.ownBlock]at e;omega);have E5:=E4.grown g5 d5 (λk e=>(h4.lt k e).1);refine⟨k+1,hlt,Ψ,E5.below,E5.drawn,E5.box,_, ?_,Bf hlt hos HM.out hyes hq hpre (λh=>absurd h P) r.heap.size 1⟩;exact hW2.ins hq (aN r _ _) (δ _) (by rw[show(((r.alloc _).alloc _).drew).heap.size=_ from size_alloc _ _,size_alloc];omega) ((Et r #[.int .i64 i0] 3 (n:=1) (size:=1) rfl hB2.out (by unfold maxLen;omega)).kept (cV (O' _ _ none) (gQ _)) (.inr (by simp[Value.ownBlock]))) (.inl rfl) g4 a4 h5 g5 a5
         case measure=>simp[intOf];omega)
    ·have hno:cF m[k]=false:=by rw[HM];show(decide ((2:Int)=2) && !decide (r0=0)&&decide (n0≥1)&&decide (n0≤3))=_;simp;omega
     go_wp2
     go_roundw
     case rel=>exact Ws.skip hlt hb hd hbox hout hos hno _
     case measure=>simp[intOf];omega
   ·have hno:cF m[k]=false:=by rw[HM];simp[cF,hf]
    go_wp2
    go_roundw
    case rel=>exact Ws.skip hlt hb hd hbox hout hos hno _
    case measure=>simp[intOf];omega
  ·have hkl:k=m.length:=Ω
   rw[hkl,X_]at hos
   go_wp2
   clear hk hkl hbc
   go_loopw [8,9] (λv2 i2 r=>arH wr os v2 i2 r) (λ_ i2 _=>os.length-(intOf i2).toNat)
   case atStart=>exact⟨0,s_ _,rfl,VC _,δ _,D_ _ _ _ _⟩
   case round=>
    obtain⟨q,hq,rfl,hg,hdr,hrow⟩:=hrel;have houtq:=hout.kept hg;by_cases P:q<os.length
    ·rcases houtq.form with⟨_,e⟩|⟨g,cap,hv,hg1,hg2,hg3⟩
     ·rw[e]at P;exact absurd P (ar4 q)
     subst hv;have hqi:(q:Int)<(os.length:Int):=Ω
     obtain⟨x1,x2,xe,xg,xc,hx⟩:∃(x1 x2:Int) (xe:List Int) (xg xc:Nat),os[q]=((x1,x2,xe),xg,xc):=⟨_,_,_,_,_,rfl⟩;have k0:wr.cell? ⟨g,q*5,none⟩=some (.int .i64 2):=by have:=houtq.cell P 0 Ϛ;rw[hx]at this;exact this
     have k1:wr.cell? ⟨g,q*5+1,none⟩=some (.int .i64 x1):=by have:=houtq.cell P 1 Ϛ;rw[hx]at this;exact this
     have k2:wr.cell? ⟨g,q*5+2,none⟩=some (.int .i64 x2):=by have:=houtq.cell P 2 Ϛ;rw[hx]at this;exact this
     have k3:wr.cell? ⟨g,q*5+3,none⟩=some (.slice none 0 0):=by have:=houtq.cell P 3 Ϛ;rw[hx]at this;exact this
     have k4:wr.cell? ⟨g,q*5+4,none⟩=some (.slice (some ⟨xg,0,none⟩) xe.length xc):=by have:=houtq.cell P 4 Ϛ;rw[hx]at this;exact this
     have hst:=agb P;rw[hx]at hst;have hlen:=akX (os.take q);have hlen:(CT (os.take q)).length≤q:=by simp at hlen;omega
     by_cases h1:1<xe.length
     ·have h1i:(1:Int)<(xe.length:Int):=Ω
      go_wp2_with (first|(at_builtin;refine cR _ rfl (.tmp 142) (.tmp 147) 34 rfl _ 66 i66 z66 5 72 underlying34 hi66 hz66 hs66 hy66 hc66 Ϛ _ _ _ rfl (adk hrow (O' _ _ none)) _ 1 1 (dj ((x1,x2,xe),xg,xc)) rfl rfl (.inr ⟨_,rfl,CX _ _ _⟩) (nD _) ?o1 ?o2 ?o3 ?_))
      case o1=>unfold maxLen;omega
      case o2=>omega
      case o3=>exact Nat.le_succ_of_le hg.size
      intro v2 r h2 g2 a2 d2
      go_wp2
      go_roundw
      case rel=>exact⟨q+1,P,Ψ,aaO (cV hg (O' _ _ none)) g2 (λn e=>(hrow.lt n e).1),υ hdr d2,by rw[hst,β h1,a_,tP];simpa[cq]using h2⟩
      case measure=>simp[intOf];omega
     ·have h1i:¬(1:Int)<(xe.length:Int):=Ω
      go_wp2
      go_roundw
      case rel=>exact⟨q+1,P,Ψ,hg,hdr,by rw[hst,ο h1,G?];exact hrow⟩
      case measure=>simp[intOf];omega
    ·have hqe:q=os.length:=Ω
     have hqi:((q:Int)<(os.length:Int))=False:=by simp;omega
     rw[hqe,X_]at hrow;have hend:=hb.grown hg hb.size (λ_ e=>by cases e);obtain⟨A',c',hv⟩:=houtq.form2;subst hv
     go_wp2
     go_ret
     exact⟨_,rfl,hend,υ hd hdr,os,hos,Ah hrow hb.size,λx hx=>Ah (houtq.ent x hx) (j? _)⟩
open Go Go.Proofs Go.RowKit Tryz
def Qp {w:World}{St:Sb}:∀l:List Int,Rep w St (chain (toD tInt) l) (qN l)
 |[]=>rfl
 |i::l=>⟨[.int .i64 i],_,rfl,⟨rfl,rfl⟩,Qp l⟩
def ahi {x:Crg}(f:w'.ownsRow w.heap.size 3 1 (slC x) x.1.2.2.length (qN x.1.2.2)):Rep w' (Aq w w' St) (toD ac (Zz x.1)) (dj x) :=
 ⟨[.int .i64 2],_,rfl,⟨rfl,rfl⟩,[.int .i64 x.1.1],_,rfl,⟨rfl,rfl⟩,[.int .i64 x.1.2.1],_,rfl,⟨rfl,rfl⟩,[.slice none 0 0],_,rfl,⟨none,0,0,rfl,rfl,δ _,.inl rfl⟩,[slC x],[],rfl,W6 (τ:=tInt) f (Qp _),rfl⟩
def W5 {w w':World}{St:Sb}:∀l:List Crg,(∀x∈l,w'.ownsRow w.heap.size 3 1 (slC x) x.1.2.2.length (qN x.1.2.2))→Rep w' (Aq w w' St) (chain (toD ac) (l.map λx=>Zz x.1)) (cq l)
 |[],_=>rfl
 |x::l,h=>⟨dj x,cq l,rfl,ahi (h x c_),W5 l λy f=>h y (C' _ f)⟩
def We {m:Mdl}(h:os.map (·.1)=iP m.1):(CT os).map (λx=>Zz x.1)=jI m:=by rw[jI,←h,List.filter_map,V?];rfl
def SQ:Callable prog 63:=⟨_,func63,rfl,Φ⟩
def aa6 (m:Mdl)(h:Hk m=true):MeetsD prog 63 [⟨aB,m⟩] (.val (.slice ac) (jI m)):=by
 refine⟨SQ,λw St P R f=>?_⟩;obtain⟨g,rfl,p⟩:∃g,R=[g]∧RepV w St aB m g:=by
  cases R with
  |nil=>exact f.elim
  |cons g r=>
   cases r with
   |nil=>exact⟨g,rfl,f.1⟩
   |cons _ _=>exact f.2.elim
 obtain⟨l,u⟩:=m;obtain⟨A,c,rfl,hc,J⟩:=afD P p;refine(SP l w A c (XB h) hc J).mono ?_;rintro e w' ⟨v,rfl,hb,hd,os,C,U,he⟩;have j:=We (m:=(l,u)) C;have hl:(jI (l,u)).length=(CT os).length:=by rw[←j];simp
 refine Gy (τ:=ac) hb hd (xs:=cq (CT os)) (by rw[hl];exact U) ?_;rw[←j];exact W5 _ λx T=>he x (m?.1 T).1
