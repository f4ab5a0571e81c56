/- Closed runs. -/
import Derived.Test.YtfgpipfjalmooaaGreatSkE
import Derived.Test.YtfgpipfjalmooaaGreatMkB
set_option linter.all false
noncomputable section
namespace Go.Proofs.YtfgpipfjalmooaaGreat
namespace Clo
open Go Go.RowKit Tryz
def Ys:List ME→Option (List (Int×Int))
 |[]=>some []
 |e::l=>match e.key,Ys l with
  |.agg [.int .i64 a,.int .i64 b],some r=>some ((a,b)::r)
  |_,_=>none
def aha (a b:List (Int×Int)):Bool:=a.all λx=>b.contains x
def Kh {f:Type}[BEq f]:List f→Bool
 |[]=>true
 |x::l=>!l.contains x&&Kh l
def aiX:List (Int×Int)→Bool
 |x::y::l=>decide (Abs.cmpS x y<0)&&aiX (y::l)
 |_=>true
def acp (g:List (Int×Int))(j:List ME)(clock:Nat):Bool:=match Ys j with
 |some f=>aha f g&&aha g f&&Kh f&&Kh g&&Kh (j.map (·.born))&&j.all (λe=>Nat.blt e.born clock)&&Nat.ble f.length 1048576&&Nat.blt 0 f.length
 |none=>false
def okS (g:List (Int×Int))(b:HP)(args:List TV)(d:DM):Bool:=match args with
 |[.pv (.one (.clo k)),.pv (.one (.fnc c))]=>Nat.beq c 196&&(match (HP.ov b d).get k with
  |.clo (.func f) [] [.one (.ptr q 0 0)]=>Nat.beq f 244&&(match (HP.ov b d).get q with
   |.row _ 1 _ _ _ _=>(match rW ((HP.ov b d).get q) 0 1 1 0 with
    |some [[.mp m]]=>(match (HP.ov b d).get m with
     |.map j clock=>acp g j clock
     |_=>false)
    |_=>false)
   |_=>false)
  |_=>false)
 |_=>false
def Az:∀{g:List ME} {f:List (Int×Int)},Ys g=some f→f.length=g.length
 |[],f,h=>by cases h;rfl
 |e::g,f,h=>by
  unfold Ys at h;split at h
  next a b r h1 h2=>cases h;simp[Az h2]
  ·cases h
def Vy:∀{g:List ME} {f:List (Int×Int)},Ys g=some f→∀(i:Nat) (e:ME),g[i]? = some e→e.key = .agg [.int .i64 (f.getD i (0,0)).1,.int .i64 (f.getD i (0,0)).2]
 |[],f,h,i,e,he=>by simp at he
 |e0::g,f,h,i,e,he=>by
  unfold Ys at h;split at h
  next a b r h1 h2=>
   cases h;cases i with
   |zero=>simp at he;subst he;simpa using h1
   |succ i=>simpa using Vy h2 i e (by simpa using he)
  ·cases h
def oW {f:Type}[BEq f][LawfulBEq f]:∀{l:List f},Kh l=true→l.Nodup
 |[],_=>akj
 |x::l,h=>by simp only[Kh,η,akf]at h;exact X?.2 ⟨λg=>(by rw[O_.2 g]at h;exact absurd h.1 Ϛ),oW h.2⟩
def SH (f:List (Int×Int)):(List.range f.length).map (λi=>f.getD i (0,0))=f:=by refine alF Ψ λi j g=>?_;simp[π,ε g]
def Iw {x y z:Int×Int}(h:Abs.cmpS x y<0)(g:Abs.cmpS y z<0):Abs.cmpS x z<0:=by rw[Abs.cmpS_lt]at *;omega
def XV [SymVal]{ks:List (Int×Int)}(r:ks.Pairwise λx y=>Abs.cmpS x y<0)(B:Nat)(W:W0)(T:Gx)(b:HP)(d:DM)(args:List TV)(vs:List Value)(w:World)(g:okS ks b args d=true)(hI:Inv B W T (HP.ov b d).get w)(hr:RTs T args vs) :
  bx prog 194∧Calls prog 194 vs.toArray w λe w'=>∃v,e = .returned v∧Below w.heap.size w w'∧dz w≤dz w'∧w'.ownsRow w.heap.size 246 2 v ks.length (Abs.flS ks):=by
 refine⟨⟨_,func194,rfl,Φ⟩, ?_⟩;unfold okS at g;split at g;case h_2=>cases g
 rename_i k c;rw[η]at g;obtain⟨hc,g⟩:=g;obtain rfl:=κ hc;split at g;case h_2=>cases g
 rename_i f q hk;rw[η]at g;obtain⟨hf,g⟩:=g;obtain rfl:=κ hf;split at g;case h_2=>cases g
 rename_i e0 el0 len0 afH fz0 hq;split at g;case h_2=>cases g
 rename_i m hrow;split at g;case h_2=>cases g
 rename_i es clock hm;unfold acp at g;split at g;case h_2=>cases g
 rename_i kl C;simp only[η]at g;obtain⟨⟨⟨⟨⟨⟨⟨a1,a2⟩,a3⟩,a4⟩,a5⟩,a6⟩,a7⟩,a8⟩:=g;match vs,hr with
 |[v1,v2],⟨U,h2,_⟩=>
  have U:den T (.clo k)=some v1:=U;have h2:some (Value.func (.func 196) #[] #[])=some v2:=h2;obtain rfl:=q' h2;have hoq:=hI.obj q;rw[hq]at hoq;obtain⟨_,_,_,_,hloc⟩:=hoq;obtain⟨lq,R,_,_⟩:=hloc 0 (k_ _);have g:=hI.obj k;rw[hk]at g;obtain⟨_,a,c,q1,q2,q3⟩:=g;obtain rfl:[]=a:=q' q1;have q2:(match den T (.ptr q 0 0),(some []:Option (List Value))with|some v,some vs=>some (v::vs)|_,_=>none)=some c:=q2;have hp:den T (.ptr q 0 0)=some (.pointer (some ⟨lq.b,0,none⟩)):=by simp only[den,R]
  rw[hp]at q2;obtain rfl:=q' q2;obtain rfl:Value.func (.func 244) #[] #[.pointer (some ⟨lq.b,0,none⟩)]=v1:=by simp only[den,q3]at U;exact q' U
  obtain⟨_,_,ds,r3,r4⟩:=hI.rds R hrow;obtain⟨u,rfl,hu⟩:=Uh (c :=.mp m) r3;have hom:=hI.obj m;rw[hm]at hom;obtain⟨_,lm,j,hlm,_,hb,hes⟩:=hom;have hu:some (Value.map (some lm.b))=some u:=by simpa only[den,hlm]using hu
  obtain rfl:=q' hu;have p:j.size=kl.length:=by rw[Az C,←hes.1];simp
  have P:∀i,i<j.size→∃e,es[i]? = some e∧aS T e.key=some (Abs.entA j i).key∧(Abs.entA j i).born=e.born:=λi J=>by
   have r:i<es.length:=by rw[←Az C,←p];exact J
   obtain⟨v,e1,e2,_,e4⟩:=hes.2 i es[i] (ε r);have e5:Abs.entA j i=v:=q' ((Abs.entA_at J).symm.trans e1);exact⟨_,ε r,by rw[e5];exact e2,by rw[e5];exact e4⟩
  have l:j.toList.map (·.born)=es.map (·.born):=by
   refine M? λi=>?_;rw[Q_,Q_];by_cases J:i<j.size
   ·obtain⟨e,e1,_,e3⟩:=P i J;rw[e1,Abs.entA_at J];exact i_ some e3
   ·rw[y_ (by simpa using J),y_ (by rw[←Az C,←p];omega)];rfl
  have:=Abs.sortedS_calls lq.b lm.b j clock (λx hx=>?_) (by rw[l];exact oW a5) (λi=>kl.getD i (0,0)) (λi J=>?_) (by rw[p];exact N_ a8) (by rw[p];exact N_ a7) ks ?_ r w (hI.lt R) (r4 0 _ rfl) hb
  ·refine this.mono ?_;rintro e w' ⟨v,U,h2,h3⟩;exact⟨v,U,h2,ζ _,h3⟩
  ·have:x.born∈es.map (·.born):=by rw[←l];exact z? hx
   obtain⟨e,he,h⟩:=l_.1 this;rw[←h];exact N_ (X'.1 a6 e he)
  ·obtain⟨e,e1,e2,_⟩:=P i J;rw[Vy C i e e1]at e2;exact(q' e2).symm
  ·rw[p,SH];exact(alR (oW a3) (oW a4)).2 λx=>⟨λh=>O_.1 (X'.1 a1 x h),λh=>O_.1 (X'.1 a2 x h)⟩
def Wo:∀{l:List (Int×Int)},aiX l=true→l.Pairwise λx y=>Abs.cmpS x y<0
 |[],_=>List.Pairwise.nil
 |[x],_=>m_.2 ⟨λ_ h=>(by cases h),List.Pairwise.nil⟩
 |x::y::l,h=>by
  simp[aiX]at h;have g:=Wo (l:=y::l) h.2;refine m_.2 ⟨λz f=>?_,g⟩;obtain rfl|f:=J'.1 f
  ·exact h.1
  ·exact Iw h.1 ((m_.1 g).1 z f)
end Clo
namespace Abs
open Go Go.RowKit Tryz
def upB (all:List WK)(ws:List Int):List Int→List Int→Bool
 |_,[]=>true
 |seen,x::l=>(ws.contains x&&fb all x||seen.any λp=>(sy all p).contains x)&&upB all ws (x::seen) l
def ajg (all:List WK)(ws f:List Int):Bool:=(upB all ws [] f&&ws.all (λx=>!fb all x||f.contains x))&&f.all λp=>(sy all p).all f.contains
def ZN {all:List WK}{ws:List Int}:∀{l seen:List Int},upB all ws seen l=true→(∀x∈seen,RchK all ws x)→∀x∈l,RchK all ws x
 |[],_,_,_,x,hx=>by cases hx
 |y::l,seen,h,hs,x,hx=>by
  simp only[upB,η,Y?,ak9]at h;have g:RchK all ws y:=by
   obtain h|⟨p,j,h⟩:=h.1
   ·exact .root (O_.1 h.1) h.2
   ·exact .step (hs p j) (O_.1 h)
  obtain rfl|hx:=J'.1 hx
  ·exact g
  ·exact ZN h.2 (λz f=>by
    obtain rfl|f:=J'.1 f
    ·exact g
    ·exact hs z f) x hx
variable{ws:List Int}
def aew {all:List WK}{f:List Int}(h:ajg all ws f=true)(p:f.Pairwise λx y=>x<y):iW f (RchK all ws):=by
 simp only[ajg,η]at h;refine⟨p,λx=>⟨ZN h.1.1 (λx g=>by cases g) x,λg=>?_⟩⟩;induction g with
 |root r j =>have:=X'.1 h.1.2 _ r;rw[j]at this;exact O_.1 (by simpa using this)
 |step _ j l=>exact O_.1 (X'.1 (X'.1 h.2 _ l) _ j)
def ag2 (f:List (List WK))(ws:List Int):Bool:=Nat.ble f.length 1024&&f.all (λc=>Nat.ble c.length 1048576)&&Nat.ble f.flatten.length 500000&&f.flatten.all (λx=>(Lit.int .i64 x.id).wf&&(Lit.int .i64 x.rf).wf)&&Nat.ble ws.length 1024&&ws.all λx=>(Lit.int .i64 x).wf
def ab0 {g:List (List WK)}(h:ag2 g ws=true):GoodW g ws:=by simp only[ag2,η]at h;exact⟨N_ h.1.1.1.1.1,λc j=>N_ (X'.1 h.1.1.1.1.2 c j),N_ h.1.1.1.2,λx f=>(by have:=X'.1 h.1.1.2 x f;rwa[η]at this),N_ h.1.2,λx f=>X'.1 h.2 x f⟩
def ksA:List Int:=[1048578,1048579,1048580,1048581,1048582,1048583,1048584,1048585,1048586]
def ksA_asc:iW ksA (RchK (fD [fst0]) [1048578]):=aew Φ Ϛ
def fst0_good:GoodW (([fst0].map tA).map (·.wl)) [1048578]:=ab0 Φ
end Abs
namespace Clo
open Go Go.RowKit Tryz
open Go.Proofs.YtfgpipfjalmooaaGreat.Abs (Sb)
def spA:List (Int×Int):=[(1048577,1),(1048577,2),(1048577,3),(1048578,1),(1048578,2),(1048578,3),(1048578,8),(1048578,9),(1048578,13),(1048579,1),(1048579,2),(1048579,3),(1048580,1),(1048580,2),(1048580,4),(1048580,8),(1048581,1),(1048581,2),(1048581,3),(1048581,8),(1048582,1),(1048582,2),(1048582,4),(1048582,8),(1048583,1),(1048583,2),(1048583,4),(1048583,8),(1048584,1),(1048584,2),(1048584,4),(1048584,8),(1048585,1),(1048585,2),(1048585,4),(1048585,8),(1048586,1),(1048586,2),(1048586,4),(1048586,8),(1048587,1),(1048587,2),(1048587,3)]
def aec:spA.Pairwise λx y=>Abs.cmpS x y<0:=Wo Φ
def ahX (b:HP)(args:List TV)(d:DM):Bool:=match args with
 |[.pv (.one l),.pv (.one u)]=>chk (HP.ov b d).get (.slice Abs.tCommit) [Abs.fst0] [l]&&chk (HP.ov b d).get (.slice (.int .i64)) [1048578] [u]
 |_=>false
def stA (w:World):Sb:=⟨λb _=>b<w.heap.size,λ_ _ _ _=>False⟩
def Wp [SymVal]{B:Nat}{W:W0}{f:Gx}{h:Pos→EO}{w:World}(p:Inv B W f h w){t:Abs.Ty}{x:List t.den}{c:CV}{v:Value}(C:chk h (.slice t) x [c]=true)(j:RT f (.pv (.one c)) v):Abs.RepV w (stA w) (.slice t) x v:=by unfold Abs.RepV;rw[Θ (by simp[Abs.Ty.isStruct])];have j:den f c=some v:=j;exact MU p (λk g l r o=>p.lt r) (.slice t) x [c] [v] C (by simp[aU,j])
def S5 [SymVal](B:Nat)(W:W0)(P:Gx)(b:HP)(d:DM)(args:List TV)(r:List Value)(w:World)(f:ahX b args d=true)(R:Inv B W P (HP.ov b d).get w)(U:RTs P args r) :
  bx prog 10∧Calls prog 10 r.toArray w λe p=>∃v,e = .returned v∧Below w.heap.size w p∧dz w≤dz p∧p.ownsRow w.heap.size 3 1 v Abs.ksA.length (Abs.intsI Abs.ksA):=by
 refine⟨⟨_,func10,rfl,Φ⟩, ?_⟩;unfold ahX at f;split at f;case h_2=>cases f
 rename_i l u;rw[η]at f;match r,U with
 |[v1,v2],⟨h1,h2,_⟩ =>obtain⟨A,cap,rfl,_,J⟩:=Abs.comsF_of (St:=stA w) (λb o h=>h) (Wp R f.1 h1);obtain⟨A2,j,rfl,C⟩:=Abs.ints_of (St:=stA w) (λb o h=>h) (Wp R f.2 h2);refine(Abs.kept_calls _ _ Abs.fst0_good w A A2 cap j J.comms (Abs.ints_of_sl C rfl)).mono ?_;rintro e p ⟨v,T,rfl,g,hb,ho⟩;obtain rfl:T=Abs.ksA:=Abs.asc_uniq g Abs.ksA_asc;exact⟨v,rfl,hb,ζ _,ho⟩
def Xz (l:List Int):List (List CV):=l.map λx=>[.int .i64 x]
def rowS (l:List (Int×Int)):List (List CV):=l.map λx=>[.int .i64 x.1,.int .i64 x.2]
def ZY:Tb:=DT 10 ahX 3 1 (Xz Abs.ksA) (DT 194 (okS spA) 246 2 (rowS spA) S7)
def acE [SymVal](f:Gx):∀l:List Int,aU f (Xz l).flatten=some (Abs.intsI l)
 |[]=>rfl
 |x::l=>by have:=acE f l;simp[Xz]at this;simp[Xz,Abs.intsI,aU,den,this]
def acD [SymVal](f:Gx):∀l:List (Int×Int),aU f (rowS l).flatten=some (Abs.flS l)
 |[]=>rfl
 |x::l=>by have:=acD f l;simp[rowS]at this;simp[rowS,Abs.flS,Abs.celS,aU,den,this]
def ZX [SymVal]{J:Glt}:yQ prog J ZY:=by
 have k:∀{l:List Int},∀a∈Xz l,a.length=1:=λa j=>by obtain⟨x,_,rfl⟩:=l_.1 j;rfl
 refine Fp Ϛ k (by simp[Xz,Abs.ksA]) Ϛ (λf=>acE f _) (λB W f b d args g w C r p=>?_) (Fp Ϛ (λa j=>by obtain⟨x,_,rfl⟩:=l_.1 j;rfl) (by simp[rowS,spA]) Ϛ (λf=>acD f _) (λB W f b d args g w C r p=>?_) gk)
 ·exact S5 B W f b d args g w C r p
 ·exact XV aec B W f b d args g w C r p
def psF (f:Nat):Nat→Pos:=Nat.rec (motive:=λ_=>Nat→Pos) (λ_=>.e) (λ_ g n=>Nat.rec (motive:=λ_=>Pos) .e (λm _=>Bool.rec (motive:=λ_=>Pos) (.i (g (Nat.div m 2))) (.o (g (Nat.div m 2))) (Nat.beq (Nat.mod m 2) 0)) n) f
def ps (n:Nat):Pos:=psF 40 n
def Y:DM :=.leaf
def Z:PT Ch :=.leaf
