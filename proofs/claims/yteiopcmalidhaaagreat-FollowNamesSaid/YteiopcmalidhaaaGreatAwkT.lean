/- Closed runs. -/
import Derived.Test.YteiopcmalidhaaaGreatJoinA
import Derived.Test.YteiopcmalidhaaaGreatSkE
import Derived.Test.YteiopcmalidhaaaGreatOrdE
import Derived.Test.YteiopcmalidhaaaGreatGenG
set_option linter.all false
noncomputable section
namespace Go.Proofs.YteiopcmalidhaaaGreat
namespace Clo
open Go Go.RowKit Tryz
def VG:List ME→Option (List (Int×Int))
 |[]=>some []
 |e::l=>match e.key,VG l with
  |.agg [.int .i64 a,.int .i64 b],some r=>some ((a,b)::r)
  |_,_=>none
def aei (a b:List (Int×Int)):Bool:=a.all λx=>b.contains x
def Ir {f:Type}[BEq f]:List f→Bool
 |[]=>true
 |x::l=>!l.contains x&&Ir l
def agh:List (Int×Int)→Bool
 |x::y::l=>decide (Abs.cmpS x y<0)&&agh (y::l)
 |_=>true
def ZA (g:List (Int×Int))(j:List ME)(clock:Nat):Bool:=match VG j with
 |some f=>aei f g&&aei g f&&Ir f&&Ir g&&Ir (j.map (·.born))&&j.all (λe=>Nat.blt e.born clock)&&Nat.ble f.length 1048576&&Nat.blt 0 f.length
 |none=>false
def okS (g:List (Int×Int))(b:HP)(args:List TV)(d:DM):Bool:=match args with
 |[.pv (.one (.clo k)),.pv (.one (.fnc c))]=>Nat.beq c 266&&(match (HP.ov b d).get k with
  |.clo (.func f) [] [.one (.ptr q 0 0)]=>Nat.beq f 330&&(match (HP.ov b d).get q with
   |.row _ 1 _ _ _ _=>(match oo ((HP.ov b d).get q) 0 1 1 0 with
    |some [[.mp m]]=>(match (HP.ov b d).get m with
     |.map j clock=>ZA g j clock
     |_=>false)
    |_=>false)
   |_=>false)
  |_=>false)
 |_=>false
def yE:∀{g:List ME} {f:List (Int×Int)},VG g=some f→f.length=g.length
 |[],f,h=>by cases h;rfl
 |e::g,f,h=>by
  unfold VG at h;split at h
  next a b r h1 h2=>cases h;simp[yE h2]
  ·cases h
def S4:∀{g:List ME} {f:List (Int×Int)},VG g=some f→∀(i:Nat) (e:ME),g[i]? = some e→e.key = .agg [.int .i64 (f.getD i (0,0)).1,.int .i64 (f.getD i (0,0)).2]
 |[],f,h,i,e,he=>by simp at he
 |e0::g,f,h,i,e,he=>by
  unfold VG at h;split at h
  next a b r h1 h2=>
   cases h;cases i with
   |zero=>simp at he;subst he;simpa using h1
   |succ i=>simpa using S4 h2 i e (by simpa using he)
  ·cases h
def nT {f:Type}[BEq f][LawfulBEq f]:∀{l:List f},Ir l=true→l.Nodup
 |[],_=>R?
 |x::l,h=>by simp only[Ir,κ,aiq]at h;exact aiB.2 ⟨λg=>(by rw[aiO.2 g]at h;exact absurd h.1 Ϛ),nT h.2⟩
def P8 (f:List (Int×Int)):(List.range f.length).map (λi=>f.getD i (0,0))=f:=by refine ajg Ψ λi j g=>?_;simp[υ,δ g]
def GK {x y z:Int×Int}(h:Abs.cmpS x y<0)(g:Abs.cmpS y z<0):Abs.cmpS x z<0:=by rw[Abs.cmpS_lt]at *;omega
def Vc [SymVal]{ks:List (Int×Int)}(r:ks.Pairwise λx y=>Abs.cmpS x y<0)(B:Nat)(W:W0)(T:Gx)(b:HP)(d:DM)(args:List TV)(vs:List Value)(w:World)(g:okS ks b args d=true)(hI:Inv B W T (HP.ov b d).get w)(hr:RTs T args vs) :
  bE prog 264∧Calls prog 264 vs.toArray w λe w'=>∃v,e = .returned v∧Below w.heap.size w w'∧dz w≤dz w'∧w'.ownsRow w.heap.size 310 2 v ks.length (Abs.flS ks):=by
 refine⟨⟨_,func264,rfl,Φ⟩, ?_⟩;unfold okS at g;split at g;case h_2=>cases g
 rename_i k c;rw[κ]at g;obtain⟨hc,g⟩:=g;obtain rfl:=ν hc;split at g;case h_2=>cases g
 rename_i f q hk;rw[κ]at g;obtain⟨hf,g⟩:=g;obtain rfl:=ν hf;split at g;case h_2=>cases g
 rename_i e0 el0 len0 acK fz0 hq;split at g;case h_2=>cases g
 rename_i m hrow;split at g;case h_2=>cases g
 rename_i es clock hm;unfold ZA at g;split at g;case h_2=>cases g
 rename_i kl C;simp only[κ]at g;obtain⟨⟨⟨⟨⟨⟨⟨a1,a2⟩,a3⟩,a4⟩,a5⟩,a6⟩,a7⟩,a8⟩:=g;match vs,hr with
 |[v1,v2],⟨U,h2,_⟩=>
  have U:den T (.clo k)=some v1:=U;have h2:some (Value.func (.func 266) #[] #[])=some v2:=h2;obtain rfl:=π h2;have hoq:=hI.obj q;rw[hq]at hoq;obtain⟨_,_,_,_,hloc⟩:=hoq;obtain⟨lq,R,_,_⟩:=hloc 0 (c_ _);have g:=hI.obj k;rw[hk]at g;obtain⟨_,a,c,q1,q2,q3⟩:=g;obtain rfl:[]=a:=π q1;have q2:(match den T (.ptr q 0 0),(some []:Option (List Value))with|some v,some vs=>some (v::vs)|_,_=>none)=some c:=q2;have hp:den T (.ptr q 0 0)=some (.pointer (some ⟨lq.b,0,none⟩)):=by simp only[den,R]
  rw[hp]at q2;obtain rfl:=π q2;obtain rfl:Value.func (.func 330) #[] #[.pointer (some ⟨lq.b,0,none⟩)]=v1:=by simp only[den,q3]at U;exact π U
  obtain⟨_,_,ds,r3,r4⟩:=hI.rds R hrow;obtain⟨u,rfl,hu⟩:=RE (c :=.mp m) r3;have hom:=hI.obj m;rw[hm]at hom;obtain⟨_,lm,j,hlm,_,hb,hes⟩:=hom;have hu:some (Value.map (some lm.b))=some u:=by simpa only[den,hlm]using hu
  obtain rfl:=π hu;have p:j.size=kl.length:=by rw[yE C,←hes.1];simp
  have P:∀i,i<j.size→∃e,es[i]? = some e∧aP T e.key=some (Abs.entA j i).key∧(Abs.entA j i).born=e.born:=λi J=>by
   have r:i<es.length:=by rw[←yE C,←p];exact J
   obtain⟨v,e1,e2,_,e4⟩:=hes.2 i es[i] (δ r);have e5:Abs.entA j i=v:=π ((Abs.entA_at J).symm.trans e1);exact⟨_,δ r,by rw[e5];exact e2,by rw[e5];exact e4⟩
  have l:j.toList.map (·.born)=es.map (·.born):=by
   refine X_ λi=>?_;rw[A_,A_];by_cases J:i<j.size
   ·obtain⟨e,e1,_,e3⟩:=P i J;rw[e1,Abs.entA_at J];exact Y' some e3
   ·rw[u_ (by simpa using J),u_ (by rw[←yE C,←p];omega)];rfl
  have:=Abs.sortedS_calls lq.b lm.b j clock (λx hx=>?_) (by rw[l];exact nT a5) (λi=>kl.getD i (0,0)) (λi J=>?_) (by rw[p];exact v? a8) (by rw[p];exact v? a7) ks ?_ r w (hI.lt R) (r4 0 _ rfl) hb
  ·refine this.mono ?_;rintro e w' ⟨v,U,h2,h3⟩;exact⟨v,U,h2,ζ _,h3⟩
  ·have:x.born∈es.map (·.born):=by rw[←l];exact aiX hx
   obtain⟨e,he,h⟩:=s_.1 this;rw[←h];exact v? (T'.1 a6 e he)
  ·obtain⟨e,e1,e2,_⟩:=P i J;rw[S4 C i e e1]at e2;exact(π e2).symm
  ·rw[p,P8];exact(aj7 (nT a3) (nT a4)).2 λx=>⟨λh=>aiO.1 (T'.1 a1 x h),λh=>aiO.1 (T'.1 a2 x h)⟩
def TT:∀{l:List (Int×Int)},agh l=true→l.Pairwise λx y=>Abs.cmpS x y<0
 |[],_=>List.Pairwise.nil
 |[x],_=>j_.2 ⟨λ_ h=>(by cases h),List.Pairwise.nil⟩
 |x::y::l,h=>by
  simp[agh]at h;have g:=TT (l:=y::l) h.2;refine j_.2 ⟨λz f=>?_,g⟩;obtain rfl|f:=C'.1 f
  ·exact h.1
  ·exact GK h.1 ((j_.1 g).1 z f)
end Clo
namespace Abs
open Go Go.RowKit Tryz
def agz:tCommit.den:=(1048595,[1048594],[],[],[(1048578,3,(0,false,[97,97],0,()),())],())
def hisA:List tCommit.den:=[fst0,agz]
def hisA_good:GoodK (hisA.map fW):=by
 refine⟨by decide,by unfold StL;decide,λc f=>?_,λc f=>?_,λc f p g=>?_⟩;all_goals
  have f:c=(1048594,[])∨c=(1048595,[1048594]):=by simpa[hisA,fW,fst0,agz]using f
  obtain rfl|rfl:=f
 ·decide
 ·decide
 ·decide
 ·decide
 ·cases g
 ·rw[E'.1 g];decide
def hisA_ord:wH (hisA.map fW)=[1048594,1048595]:=by decide
end Abs
namespace Clo
open Go Go.RowKit Tryz
open Go.Proofs.YteiopcmalidhaaaGreat.Abs (Sb)
def spA:List (Int×Int):=[(1048577,1),(1048577,2),(1048577,3),(1048577,9),(1048577,10),(1048578,1),(1048578,2),(1048578,3),(1048578,8),(1048578,9),(1048578,13),(1048579,1),(1048579,2),(1048579,3),(1048580,1),(1048580,2),(1048580,4),(1048580,8),(1048581,1),(1048581,2),(1048581,3),(1048581,8),(1048582,1),(1048582,2),(1048582,4),(1048582,8),(1048583,1),(1048583,2),(1048583,4),(1048583,8),(1048584,1),(1048584,2),(1048584,4),(1048584,8),(1048585,1),(1048585,2),(1048585,4),(1048585,8),(1048586,1),(1048586,2),(1048586,4),(1048586,8),(1048587,1),(1048587,2),(1048587,3),(1048587,8),(1048587,9),(1048587,13),(1048588,1),(1048588,2),(1048588,4),(1048588,8),(1048589,1),(1048589,2),(1048589,4),(1048589,8),(1048590,1),(1048590,2),(1048590,4),(1048591,1),(1048591,2),(1048591,4),(1048592,1),(1048592,2),(1048592,4),(1048593,1),(1048593,2),(1048593,4),(1048593,8)]
def abl:spA.Pairwise λx y=>Abs.cmpS x y<0:=TT Φ
def Yt (b:HP)(args:List TV)(d:DM):Bool:=match args with
 |[.pv (.one l)]=>chk (HP.ov b d).get (.slice Abs.tCommit) Abs.hisA [l]
 |_=>false
def stA (w:World):Sb:=⟨λb _=>b<w.heap.size,λ_ _ _ _=>False⟩
def adH [SymVal]{B:Nat}{W:W0}{f:Gx}{h:Pos→EO}{w:World}(p:Inv B W f h w){t:Abs.Ty}{x:List t.den}{c:CV}{v:Value}(C:chk h (.slice t) x [c]=true)(j:RT f (.pv (.one c)) v):Abs.RepV w (stA w) (.slice t) x v:=by unfold Abs.RepV;rw[B' (by simp[Abs.Ty.isStruct])];have j:den f c=some v:=j;exact KZ p (λk g l r o=>p.lt r) (.slice t) x [c] [v] C (by simp[aV,j])
def Nc [SymVal](B:Nat)(W:W0)(r:Gx)(b:HP)(d:DM)(args:List TV)(j:List Value)(w:World)(f:Yt b args d=true)(U:Inv B W r (HP.ov b d).get w)(J:RTs r args j) :
  bE prog 34∧Calls prog 34 j.toArray w λe g=>∃v,e = .returned v∧Below w.heap.size w g∧dz w≤dz g∧g.ownsRow w.heap.size 3 1 v 2 (Abs.intsI [1048594,1048595]):=by
 refine⟨Abs.order_call, ?_⟩;unfold Yt at f;split at f;case h_2=>cases f
 rename_i l;match j,J with
 |[v1],⟨h1,_⟩ =>obtain⟨A,cap,rfl,R,p⟩:=Abs.comms_of (c:=Abs.tCell) (l:=Abs.hisA) (St:=stA w) (λb o h=>h) (adH U f h1);refine(Abs.order_walk _ Abs.hisA_good w A cap R p).mono ?_;rintro e g ⟨v,rfl,T,P,C⟩;rw[Abs.hisA_ord]at C;exact⟨v,rfl,T,P,C⟩
def UM (l:List Int):List (List CV):=l.map λx=>[.int .i64 x]
def rowS (l:List (Int×Int)):List (List CV):=l.map λx=>[.int .i64 x.1,.int .i64 x.2]
def Hc:Tb:=B4 34 Yt 3 1 (UM [1048594,1048595]) (B4 264 (okS spA) 310 2 (rowS spA) dT)
def ZV [SymVal](f:Gx):∀l:List Int,aV f (UM l).flatten=some (Abs.intsI l)
 |[]=>rfl
 |x::l=>by have:=ZV f l;simp[UM]at this;simp[UM,Abs.intsI,aV,den,this]
def ZU [SymVal](f:Gx):∀l:List (Int×Int),aV f (rowS l).flatten=some (Abs.flS l)
 |[]=>rfl
 |x::l=>by have:=ZU f l;simp[rowS]at this;simp[rowS,Abs.flS,Abs.celS,aV,den,this]
def W9 [SymVal]{J:Glt}:rK prog J Hc:=by
 have k:∀{l:List Int},∀a∈UM l,a.length=1:=λa j=>by obtain⟨x,_,rfl⟩:=s_.1 j;rfl
 refine Dd Ϛ k (by simp[UM]) Ϛ (λf=>ZV f _) (λB W f b d args g w C r p=>?_) (Dd Ϛ (λa j=>by obtain⟨x,_,rfl⟩:=s_.1 j;rfl) (by simp[rowS,spA]) Ϛ (λf=>ZU f _) (λB W f b d args g w C r p=>?_) bS)
 ·exact Nc B W f b d args g w C r p
 ·exact Vc abl B W f b d args g w C r p
def psF (f:Nat):Nat→Pos:=Nat.rec (motive:=λ_=>Nat→Pos) (λ_=>.e) (λ_ g n=>Nat.rec (motive:=λ_=>Pos) .e (λm _=>Bool.rec (motive:=λ_=>Pos) (.i (g (Nat.div m 2))) (.o (g (Nat.div m 2))) (Nat.beq (Nat.mod m 2) 0)) n) f
def ps (n:Nat):Pos:=psF 40 n
def Y:DM :=.leaf
