/- Closed runs. -/
import Derived.Test.YtfgpipfjalmooaaGreatSkE
import Derived.Test.YtfgpipfjalmooaaGreatMkB
open Option renaming some→ä
open Bool renaming true→ö,false→ü
set_option linter.all false
noncomputable section
namespace Go.Proofs.YtfgpipfjalmooaaGreat
namespace Clo
open Go Go.RowKit Tryz
def XK:List ME→Option (List (Int×Int))
 |[]=>ä []
 |e::l=>match e.key,XK l with
  |.agg [.int .i64 a,.int .i64 b],ä r=>ä ((a,b)::r)
  |_,_=>none
def agU (a b:List (Int×Int)):Bool:=a.all λx=>b.contains x
def JD {f:Type}[BEq f]:List f→Bool
 |[]=>ö
 |x::l=>!l.contains x&&JD l
def aiG:List (Int×Int)→Bool
 |x::y::l=>decide (Abs.cmpS x y<0)&&aiG (y::l)
 |_=>ö
def abZ (g:List (Int×Int))(j:List ME)(clock:Nat):Bool:=match XK j with
 |some f=>agU f g&&agU g f&&JD f&&JD g&&JD (j.map (·.born))&&j.all (λe=>Nat.blt e.born clock)&&Nat.ble f.length 1048576&&Nat.blt 0 f.length
 |none=>ü
def okS (g:List (Int×Int))(b:HP)(args:List TV)(d:DM):Bool:=match args with
 |[.pv (.one (.clo k)),.pv (.one (.fnc c))]=>Nat.beq c 196&&(match (HP.ov b d).get k with
  |.clo (.func f) [] [.one (.ptr q 0 0)]=>Nat.beq f 244&&(match (HP.ov b d).get q with
   |.row _ 1 _ _ _ _=>(match rk ((HP.ov b d).get q) 0 1 1 0 with
    |some [[.mp m]]=>(match (HP.ov b d).get m with
     |.map j clock=>abZ g j clock
     |_=>ü)
    |_=>ü)
   |_=>ü)
  |_=>ü)
 |_=>ü
def zE:∀{g:List ME} {f:List (Int×Int)},XK g=ä f→f.length=g.length
 |[],f,h=>by cases h;rfl
 |e::g,f,h=>by
  unfold XK at h;split at h
  next a b r h1 h2=>cases h;simp[zE h2]
  ·cases h
def US:∀{g:List ME} {f:List (Int×Int)},XK g=ä f→∀(i:Nat) (e:ME),g[i]? = ä e→e.key = .agg [.int .i64 (f.getD i (0,0)).1,.int .i64 (f.getD i (0,0)).2]
 |[],f,h,i,e,he=>by simp at he
 |e0::g,f,h,i,e,he=>by
  unfold XK at h;split at h
  next a b r h1 h2=>
   cases h;cases i with
   |zero=>simp at he;subst he;simpa using h1
   |succ i=>simpa using US h2 i e (by simpa using he)
  ·cases h
def oa {f:Type}[BEq f][LawfulBEq f]:∀{l:List f},JD l=ö→l.Nodup
 |[],_=>ajZ
 |x::l,h=>by simp only[JD,θ,akm]at h;exact aj7.2 ⟨λg=>(by rw[a?.2 g]at h;exact absurd h.1 Ϛ),oa h.2⟩
def RZ (f:List (Int×Int)):(List.range f.length).map (λi=>f.getD i (0,0))=f:=by refine List.ext_getElem Ψ λi j g=>?_;simp[O',ζ g]
def HN {x y z:Int×Int}(h:Abs.cmpS x y<0)(g:Abs.cmpS y z<0):Abs.cmpS x z<0:=by rw[Abs.cmpS_lt]at *;omega
def Xg [SymVal]{ks:List (Int×Int)}(r:ks.Pairwise λx y=>Abs.cmpS x y<0)(B:Nat)(W:W0)(T:Gx)(b:HP)(d:DM)(args:List TV)(vs:List Value)(w:World)(g:okS ks b args d=ö)(hI:Inv B W T (HP.ov b d).get w)(hr:RTs T args vs) :
  bA prog 194∧Calls prog 194 vs.toArray w λe w'=>∃v,e = .returned v∧Below w.heap.size w w'∧dz w≤dz w'∧w'.ownsRow w.heap.size 246 2 v ks.length (Abs.flS ks):=by
 refine⟨⟨_,func194,rfl,Φ⟩, ?_⟩;unfold okS at g;split at g;case h_2=>cases g
 rename_i k c;rw[θ]at g;obtain⟨hc,g⟩:=g;obtain rfl:=ν hc;split at g;case h_2=>cases g
 rename_i f q hk;rw[θ]at g;obtain⟨hf,g⟩:=g;obtain rfl:=ν hf;split at g;case h_2=>cases g
 rename_i e0 el0 len0 afg fz0 hq;split at g;case h_2=>cases g
 rename_i m hrow;split at g;case h_2=>cases g
 rename_i es clock hm;unfold abZ at g;split at g;case h_2=>cases g
 rename_i kl C;simp only[θ]at g;obtain⟨⟨⟨⟨⟨⟨⟨a1,a2⟩,a3⟩,a4⟩,a5⟩,a6⟩,a7⟩,a8⟩:=g;match vs,hr with
 |[v1,v2],⟨U,h2,_⟩=>
  have U:den T (.clo k)=ä v1:=U;have h2:ä (Value.func (.func 196) #[] #[])=ä v2:=h2;obtain rfl:=Δ h2;have hoq:=hI.obj q;rw[hq]at hoq;obtain⟨_,_,_,_,hloc⟩:=hoq;obtain⟨lq,R,_,_⟩:=hloc 0 (Y' _);have g:=hI.obj k;rw[hk]at g;obtain⟨_,a,c,q1,q2,q3⟩:=g;obtain rfl:[]=a:=Δ q1;have q2:(match den T (.ptr q 0 0),(ä []:Option (List Value))with|some v,ä vs=>ä (v::vs)|_,_=>none)=ä c:=q2;have hp:den T (.ptr q 0 0)=ä (.pointer (ä ⟨lq.b,0,none⟩)):=by simp only[den,R]
  rw[hp]at q2;obtain rfl:=Δ q2;obtain rfl:Value.func (.func 244) #[] #[.pointer (ä ⟨lq.b,0,none⟩)]=v1:=by simp only[den,q3]at U;exact Δ U
  obtain⟨_,_,ds,r3,r4⟩:=hI.rds R hrow;obtain⟨u,rfl,hu⟩:=Tv (c :=.mp m) r3;have hom:=hI.obj m;rw[hm]at hom;obtain⟨_,lm,j,hlm,_,hb,hes⟩:=hom;have hu:ä (Value.map (ä lm.b))=ä u:=by simpa only[den,hlm]using hu
  obtain rfl:=Δ hu;have p:j.size=kl.length:=by rw[zE C,←hes.1];simp
  have P:∀i,i<j.size→∃e,es[i]? = ä e∧denP T e.key=ä (Abs.entA j i).key∧(Abs.entA j i).born=e.born:=λi J=>by
   have r:i<es.length:=by rw[←zE C,←p];exact J
   obtain⟨v,e1,e2,_,e4⟩:=hes.2 i es[i] (ζ r);have e5:Abs.entA j i=v:=Δ ((Abs.entA_at J).symm.trans e1);exact⟨_,ζ r,by rw[e5];exact e2,by rw[e5];exact e4⟩
  have l:j.toList.map (·.born)=es.map (·.born):=by
   refine N? λi=>?_;rw[F_,F_];by_cases J:i<j.size
   ·obtain⟨e,e1,_,e3⟩:=P i J;rw[e1,Abs.entA_at J];exact l_ ä e3
   ·rw[w_ (by simpa using J),w_ (by rw[←zE C,←p];omega)];rfl
  have:=Abs.sortedS_calls lq.b lm.b j clock (λx hx=>?_) (by rw[l];exact oa a5) (λi=>kl.getD i (0,0)) (λi J=>?_) (by rw[p];exact L_ a8) (by rw[p];exact L_ a7) ks ?_ r w (hI.lt R) (r4 0 _ rfl) hb
  ·refine this.mono ?_;rintro e w' ⟨v,U,h2,h3⟩;exact⟨v,U,h2,ε _,h3⟩
  ·have:x.born∈es.map (·.born):=by rw[←l];exact o? hx
   obtain⟨e,he,h⟩:=a_.1 this;rw[←h];exact L_ (P'.1 a6 e he)
  ·obtain⟨e,e1,e2,_⟩:=P i J;rw[US C i e e1]at e2;exact(Δ e2).symm
  ·rw[p,RZ];exact(alD (oa a3) (oa a4)).2 λx=>⟨λh=>a?.1 (P'.1 a1 x h),λh=>a?.1 (P'.1 a2 x h)⟩
def VC:∀{l:List (Int×Int)},aiG l=ö→l.Pairwise λx y=>Abs.cmpS x y<0
 |[],_=>List.Pairwise.nil
 |[x],_=>B_.2 ⟨λ_ h=>(by cases h),List.Pairwise.nil⟩
 |x::y::l,h=>by
  simp[aiG]at h;have g:=VC (l:=y::l) h.2;refine B_.2 ⟨λz f=>?_,g⟩;obtain rfl|f:=c_.1 f
  ·exact h.1
  ·exact HN h.1 ((B_.1 g).1 z f)
end Clo
namespace Abs
open Go Go.RowKit Tryz
def upB (all:List WK)(ws:List Int):List Int→List Int→Bool
 |_,[]=>ö
 |seen,x::l=>(ws.contains x&&jH all x||seen.any λp=>(tV all p).contains x)&&upB all ws (x::seen) l
def aiZ (all:List WK)(ws f:List Int):Bool:=(upB all ws [] f&&ws.all (λx=>!jH all x||f.contains x))&&f.all λp=>(tV all p).all f.contains
def Zh {all:List WK}{ws:List Int}:∀{l seen:List Int},upB all ws seen l=ö→(∀x∈seen,RchK all ws x)→∀x∈l,RchK all ws x
 |[],_,_,_,x,hx=>by cases hx
 |y::l,seen,h,hs,x,hx=>by
  simp only[upB,θ,aj8,alt]at h;have g:RchK all ws y:=by
   obtain h|⟨p,j,h⟩:=h.1
   ·exact .root (a?.1 h.1) h.2
   ·exact .step (hs p j) (a?.1 h)
  obtain rfl|hx:=c_.1 hx
  ·exact g
  ·exact Zh h.2 (λz f=>by
    obtain rfl|f:=c_.1 f
    ·exact g
    ·exact hs z f) x hx
variable{ws:List Int}
def ad9 {all:List WK}{f:List Int}(h:aiZ all ws f=ö)(p:f.Pairwise λx y=>x<y):ot f (RchK all ws):=by
 simp only[aiZ,θ]at h;refine⟨p,λx=>⟨Zh h.1.1 (λx g=>by cases g) x,λg=>?_⟩⟩;induction g with
 |root r j =>have:=P'.1 h.1.2 _ r;rw[j]at this;exact a?.1 (by simpa using this)
 |step _ j l=>exact a?.1 (P'.1 (P'.1 h.2 _ l) _ j)
def agL (f:List (List WK))(ws:List Int):Bool:=Nat.ble f.length 1024&&f.all (λc=>Nat.ble c.length 1048576)&&Nat.ble f.flatten.length 500000&&f.flatten.all (λx=>(Lit.int .i64 x.id).wf&&(Lit.int .i64 x.rf).wf)&&Nat.ble ws.length 1024&&ws.all λx=>(Lit.int .i64 x).wf
def abC {g:List (List WK)}(h:agL g ws=ö):GoodW g ws:=by simp only[agL,θ]at h;exact⟨L_ h.1.1.1.1.1,λc j=>L_ (P'.1 h.1.1.1.1.2 c j),L_ h.1.1.1.2,λx f=>(by have:=P'.1 h.1.1.2 x f;rwa[θ]at this),L_ h.1.2,λx f=>P'.1 h.2 x f⟩
def ksA:List Int:=[1048578,1048579,1048580,1048581,1048582,1048583,1048584,1048585,1048586]
def ksA_asc:ot ksA (RchK (QK [fst0]) [1048578]):=ad9 Φ Ϛ
def fst0_good:GoodW (([fst0].map cU).map (·.wl)) [1048578]:=abC Φ
end Abs
namespace Clo
open Go Go.RowKit Tryz
open Go.Proofs.YtfgpipfjalmooaaGreat.Abs (Sb)
def spA:List (Int×Int):=[(1048577,1),(1048577,2),(1048577,3),(1048578,1),(1048578,2),(1048578,3),(1048578,8),(1048578,9),(1048578,13),(1048579,1),(1048579,2),(1048579,3),(1048580,1),(1048580,2),(1048580,4),(1048580,8),(1048581,1),(1048581,2),(1048581,3),(1048581,8),(1048582,1),(1048582,2),(1048582,4),(1048582,8),(1048583,1),(1048583,2),(1048583,4),(1048583,8),(1048584,1),(1048584,2),(1048584,4),(1048584,8),(1048585,1),(1048585,2),(1048585,4),(1048585,8),(1048586,1),(1048586,2),(1048586,4),(1048586,8),(1048587,1),(1048587,2),(1048587,3)]
def adQ:spA.Pairwise λx y=>Abs.cmpS x y<0:=VC Φ
def ahH (b:HP)(args:List TV)(d:DM):Bool:=match args with
 |[.pv (.one l),.pv (.one u)]=>xb (HP.ov b d).get (.slice Abs.tCommit) [Abs.fst0] [l]&&xb (HP.ov b d).get (.slice (.int .i64)) [1048578] [u]
 |_=>ü
def stA (w:World):Sb:=⟨λb _=>b<w.heap.size,λ_ _ _ _=>False⟩
def VD [SymVal]{B:Nat}{W:W0}{f:Gx}{h:Pos→EO}{w:World}(p:Inv B W f h w){t:Abs.Ty}{x:List t.den}{c:CV}{v:Value}(C:xb h (.slice t) x [c]=ö)(j:RT f (.pv (.one c)) v):Abs.RepV w (stA w) (.slice t) x v:=by unfold Abs.RepV;rw[ω (by simp[Abs.Ty.an])];have j:den f c=ä v:=j;exact Mj p (λk g l r o=>p.lt r) (.slice t) x [c] [v] C (by simp[dens,j])
def Sp [SymVal](B:Nat)(W:W0)(P:Gx)(b:HP)(d:DM)(args:List TV)(r:List Value)(w:World)(f:ahH b args d=ö)(R:Inv B W P (HP.ov b d).get w)(U:RTs P args r) :
  bA prog 10∧Calls prog 10 r.toArray w λe p=>∃v,e = .returned v∧Below w.heap.size w p∧dz w≤dz p∧p.ownsRow w.heap.size 3 1 v Abs.ksA.length (Abs.intsI Abs.ksA):=by
 refine⟨⟨_,func10,rfl,Φ⟩, ?_⟩;unfold ahH at f;split at f;case h_2=>cases f
 rename_i l u;rw[θ]at f;match r,U with
 |[v1,v2],⟨h1,h2,_⟩ =>obtain⟨A,cap,rfl,_,J⟩:=Abs.comsF_of (St:=stA w) (λb o h=>h) (VD R f.1 h1);obtain⟨A2,j,rfl,C⟩:=Abs.ints_of (St:=stA w) (λb o h=>h) (VD R f.2 h2);refine(Abs.kept_calls _ _ Abs.fst0_good w A A2 cap j J.comms (Abs.ints_of_sl C rfl)).mono ?_;rintro e p ⟨v,T,rfl,g,hb,ho⟩;obtain rfl:T=Abs.ksA:=Abs.asc_uniq g Abs.ksA_asc;exact⟨v,rfl,hb,ε _,ho⟩
def WM (l:List Int):List (List CV):=l.map λx=>[.int .i64 x]
def rowS (l:List (Int×Int)):List (List CV):=l.map λx=>[.int .i64 x.1,.int .i64 x.2]
def Zt:Tb:=Db 10 ahH 3 1 (WM Abs.ksA) (Db 194 (okS spA) 246 2 (rowS spA) Sr)
def acf [SymVal](f:Gx):∀l:List Int,dens f (WM l).flatten=ä (Abs.intsI l)
 |[]=>rfl
 |x::l=>by have:=acf f l;simp[WM]at this;simp[WM,Abs.intsI,dens,den,this]
def ace [SymVal](f:Gx):∀l:List (Int×Int),dens f (rowS l).flatten=ä (Abs.flS l)
 |[]=>rfl
 |x::l=>by have:=ace f l;simp[rowS]at this;simp[rowS,Abs.flS,Abs.celS,dens,den,this]
def Zs [SymVal]{J:Glt}:yc prog J Zt:=by
 have k:∀{l:List Int},∀a∈WM l,a.length=1:=λa j=>by obtain⟨x,_,rfl⟩:=a_.1 j;rfl
 refine EN Ϛ k (by simp[WM,Abs.ksA]) Ϛ (λf=>acf f _) (λB W f b d args g w C r p=>?_) (EN Ϛ (λa j=>by obtain⟨x,_,rfl⟩:=a_.1 j;rfl) (by simp[rowS,spA]) Ϛ (λf=>ace f _) (λB W f b d args g w C r p=>?_) fT)
 ·exact Sp B W f b d args g w C r p
 ·exact Xg adQ B W f b d args g w C r p
def psF (f:Nat):Nat→Pos:=Nat.rec (motive:=λ_=>Nat→Pos) (λ_=>.e) (λ_ g n=>Nat.rec (motive:=λ_=>Pos) .e (λm _=>Bool.rec (motive:=λ_=>Pos) (.i (g (Nat.div m 2))) (.o (g (Nat.div m 2))) (Nat.beq (Nat.mod m 2) 0)) n) f
def ps (n:Nat):Pos:=psF 40 n
def Y:DM :=.leaf
