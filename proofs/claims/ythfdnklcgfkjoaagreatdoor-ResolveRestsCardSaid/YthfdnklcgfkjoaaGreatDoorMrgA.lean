/- Writes on a state. -/
import Derived.Test.YthfdnklcgfkjoaaGreatDoorTotF
import Derived.Test.YthfdnklcgfkjoaaGreatDoorMeetS
set_option linter.all false
namespace Go.Proofs.YthfdnklcgfkjoaaGreatDoor.Abs
open Go
variable{g:Type}{l:List Com}{c:Com}{s:Sta}{x:Int}{w:List Cel}{n:Nat}{xs:List Slt}
def Le (a b:List g)(d:g){j:Nat}(h:j<a.length):(a++b).getD j d=a.getD j d:=by simp[e_,ω h]
def Lg (a:List g)(x d:g):(a++[x]).getD a.length d=x:=by simp[e_]
structure H0 (l:List Com):Prop where
 few:l.length≤20
 asc:l.Pairwise λa b=>a.1<b.1
 par:∀c∈l,c.2.1.length≤4
 ord:∀c∈l,ir (ws c)
 txt:∀c∈l,∀x∈ws c,TxC x
 sum:dy l≤500000
def H0.isFew (h:H0 l):Few l:=⟨h.few,h.par⟩
def E3 (h:c∈l):(ws c).length≤dy l:=by
 induction l with
 |nil=>cases h
 |cons d l f=>
  simp[dy];obtain rfl|h:=N'.1 h
  ·omega
  ·have:=f h;omega
def AtP (l:List Com)(s:Sta):Prop:=∃T f,(∀c∈T,c∈l)∧(∀j<T.length,agC l [(T.getD j (zero tCommit)).1] (f.getD j []))∧StI T f (dy l) s.1
def W3 (l:List Com)(hl:H0 l)(only:List Int)(ho:only.length<1000000):∀(n:Nat) (R P T:List Com) (f:List (List Int)),l=P++R→R.length<n→(∀c∈T,c∈P)→(T.Pairwise λa b=>a.1<b.1)→T.length≤P.length→dy T≤dy P→f.length=T.length→(∀j<T.length,agC l [(T.getD j (zero tCommit)).1] (f.getD j []))→(∀r∈f,r.length<1000000)→Tot (j6 n l only T f P.length) (AtP l)
 |0,R,P,T,f,C,h2,_,_,_,_,_,_,_=>Ω
 |n+1,R,P,T,f,C,h2,h3,h4,h5,h6,h7,h8,h9=>by
  show Tot (mJ false some (j6 n) (iL FU) l only T f P.length) _;have J:=hl.few;have hws:dy P+dy R=dy l:=by rw[C,dO]
  have hsum:=hl.sum;have hP:P.length≤20:=by rw[C]at J;simp at J;omega
  simp only[mJ,fy,tt,il];rw[ar (n:=(P.length:Int)+1) Ω Ω];refine⟨λh=>?_,λ_=>?_⟩
  ·cases R with
   |nil=>rw[C]at h;simp at h
   |cons c R=>
    have hPl:(P.length:Int)<l.length:=by simpa using h
    have ec:ix tCommit l (P.length:Int)=c:=by rw[C];exact bN (t:=tCommit) P c R
    have hcl:c∈l:=by rw[C];simp
    have U:=hl.asc;rw[C,j_]at U;have next:∀(T:List Com) (f:List (List Int)),(∀c'∈T,c'∈P++[c])→(T.Pairwise λa b=>a.1<b.1)→T.length≤P.length+1→dy T≤dy (P++[c])→f.length=T.length→(∀j<T.length,agC l [(T.getD j (zero tCommit)).1] (f.getD j []))→(∀r∈f,r.length<1000000)→Tot (j6 n l only T f ((P.length:Int)+1)) (AtP l):=λT f a1 a2 a3 a4 a5 a6 a7=>by have:=W3 l hl only ho n R (P++[c]) T f (by rw[C];simp) (by simp at h2;omega) a1 a2 (by simpa using a3) a4 a5 a6 a7;simpa using this
    rw[ec];refine⟨aE Ω hPl,_,NW only _ ho,λ_=>⟨aE Ω hPl,eZ Ξ,aE Ω hPl,(IQ l [c.1] hl.isFew Ψ).mono λr hr=>⟨eZ Ξ,next _ _ (λd hd=>?_) ?_ Ξ (by rw[dO,dO];simp[dy];omega) Ξ (λj hj=>?_) (λr' hr'=>?_)⟩⟩,λ_=>next T f (λd hd=>T_ _ (h3 d hd)) h4 Ω (by rw[dO];omega) h7 h8 h9⟩
    ·obtain hd|hd:=Q'.1 hd
     ·exact T_ _ (h3 d hd)
     ·exact arW _ hd
    ·rw[j_];exact⟨h4,Ψ,λa ha b hb=>U.2.2 a (h3 a ha) b (by rw[F'.1 hb];simp)⟩
    ·by_cases e:j<T.length
     ·rw[Le _ _ _ e,Le _ _ _ Ω];exact h8 j e
     ·have e:j=T.length:=by simp at hj;omega
      subst e;rw[Lg,←h7,Lg];exact hr.2
    ·obtain h|h:=Q'.1 hr'
     ·exact h9 r' h
     ·rw[F'.1 h];have:=hr.1;omega
  ·have p:∀c∈T,c∈l:=λc hc=>by rw[C];exact T_ _ (h3 c hc)
   have h0:Rep0 T f:=⟨Ω,h4,λc hc=>hl.ord c (p c hc),λc hc=>hl.txt c (p c hc),λc hc=>by have:=E3 (p c hc);omega,h7,h9⟩;exact(Qo h0 Ω FU T [] [] rfl (by rw[bt];omega) ⟨List.Pairwise.nil,Ψ,λx g=>(by cases g),λx g=>(by cases g),λx g=>(by cases g),λx g=>(by cases g)⟩ λx g=>by cases g).mono λs hs=>⟨T,f,p,h8,hs.mono Ω⟩
def Qi (l:List Com)(f:H0 l)(only:List Int)(p:only.length<1000000):Tot (mK l only) (AtP l):=by
 have:=f.few;simp[mK,wa];exact W3 l f only p FU l [] [] [] rfl (by rw[bt];omega) (λc J=>by cases J) List.Pairwise.nil Ψ (by simp[dy]) rfl (λj C=>by simp at C) λr g=>by cases g
def LY (l:List Com)(g:H0 l)(f:List Int)(p:f.length≤1000):Tot (q9 l f) (AtP l):=by simp[q9,EV,tt];exact(IQ l f g.isFew p).mono λr j=>(Qi l g r (by have:=j.1;omega)).mono λ_ h=>h
def ak0 (l:List Com)(f:H0 l):Tot (vd l) (AtP l):=by have:=f.few;simp[vd,Yt,wP,AY,tt];exact(Vw l f.isFew).mono λr g=>(LY l f r Ω).mono λ_ h=>h
def cx (x n:Int)(g:1≤n)(f:n≤4000000000):Tot (mod2_ev x n) λr=>0≤r∧r<n:=by
 simp only[mod2_ev,NG,tt];have l:=arL x (show 0<n by omega);have j : -n<x.tmod n:=by have:=arL (-x) (show 0<n by omega);rw[Int.neg_tmod]at this;omega
 refine⟨λh=>by simp at h;omega,λ_=>⟨by simp;omega,by simp;omega, ?_⟩⟩;rw[ar Ω Ω];exact⟨Int.tmod_nonneg _ Ω,arL _ Ω⟩
def lG (l:List Int)(x:Int)(g:l.length<1000000):Tot (bw l x) λr=>r=0∨r∈l:=by
 simp only[bw,Es,tt,il];refine⟨λ_=>.inl trivial,λh=>?_⟩;have h:¬(l.length:Int)=0:=by simpa using h
 exact(cx x l.length Ω Ω).mono λr f=>⟨aE f.1 f.2,.inr (ji (t:=tInt) f.1 f.2)⟩
def Sh (s:Str):Prop:=s.length<1000
def vu (k x:Int):Tot (jL k x) Sh:=by simp[jL,Ef,tt];refine(cx x 5 Ω Ω).mono λr _=>?_;simp[Sh]
def Pq (x:Int):Tot (mf x) Sh:=by simp[mf,vI,tt];refine(cx x 5 Ω Ω).mono λr _=>?_;simp[Sh]
def Hw (x:Int):Tot (sk x) Sh:=by simp only[sk,NL,tt];exact(cx x 26 Ω Ω).mono λr _=>⟨by decide,(cx _ 25 Ω Ω).mono λr _=>by simp[Sh]⟩
structure St1 (s:Sta):Prop where
 asc:s.1.Pairwise dz
 len:s.1.length<1000000
 alts:∀x∈s.1,x.2.2.1≠[]∧x.2.2.1.length<1000000
 txt:∀x∈s.1,∀a∈x.2.2.1,TxV a.2.1
def AtP.st1 (h:AtP l s)(g:H0 l):St1 s:=by obtain⟨T,j,_,_,h⟩:=h;have:=g.sum;exact⟨h.asc,by have:=h.len;omega,λx f=>⟨(h.alts x f).1,by have:=(h.alts x f).2;omega⟩,h.txt⟩
def St1.place (h:St1 s)(id f:Int):cj s id f=true:=by unfold cj agd;rw[ι];have:=h.len;exact⟨N_ Ω,N_ h.asc⟩
def St1.stg (h:St1 s):stG s=true:=by unfold stG yF;rw[ι];have:=h.len;refine⟨N_ Ω,d_.2 λx f=>?_⟩;have:=h.alts x f;rw[ι];refine⟨by cases g:x.2.2.1 with|nil=>exact absurd g this.1|cons _ _=>rfl,N_ Ω⟩
def abI:TxV (0,false,[],0,()):=by simp[TxV]
def ZB (h:St1 s)(id f:Int):Tot (gt s id f) TxV:=by
 simp only[gt,Er,tt,il];refine⟨h.place id f,λ_=>abI,λg=>?_⟩;have g:¬((iX s id f).length:Int)=0:=by simpa using g
 refine⟨aE Ω Ω, ?_⟩;obtain e|⟨x,j,_,_,e⟩:=vf s id f
 ·rw[e]at g;simp at g
 ·exact h.txt x j _ (by rw[e];exact ji (t:=aM) Ω Ω)
def adI (h:St1 s):(∀c∈(bh s).1,TxC c∧∃x∈s.1,x.1=c.1∧x.2.1=c.2.1)∧(bh s).1.length≤s.1.length:=by
 refine⟨λc g=>?_,qC s⟩;simp only[bh,y_,m?]at g;obtain⟨x,⟨f,_⟩,rfl⟩:=g;refine⟨?_,x,f,rfl,rfl⟩;show TxV (sG x);unfold sG;cases j:x.2.2.1 with
 |nil=>exact abI
 |cons a r=>exact h.txt x f a (by rw[j];simp)
def nz {s:Sta}(h:St1 s)(f:Int):∀(n:Nat) (out:List Int) (i:Int),0≤i→i≤s.1.length→out.length≤i→s.1.length-i<n→Tot (jH n f s out i) λr=>r.length≤s.1.length
 |0,out,i,j,C,p,l=>Ω
 |n+1,out,i,j,C,p,l=>by
  show Tot (iR false some (jH n) f s out i) _;have J:=h.len;simp only[iR,iS,tt,il];refine⟨λg=>?_,λ_=>Ω⟩;have g:i<s.1.length:=by simpa using g
  rw[ar (n:=i+1) Ω Ω];exact⟨aE j g,au λ_=>aE j g,au λ_=>(wH s _ (h.place _ 1)).some,au λ_=>by simp[aD],λ_=>⟨aE j g,eZ Ξ,nz h f n _ _ Ω Ω Ξ Ω⟩,λ_=>nz h f n _ _ Ω Ω Ω Ω⟩
def eO (h:St1 s)(f:Int):Tot (bi s f) λr=>r.length≤s.1.length:=by have g:=h.len;simp[bi,pb];exact nz h f FU [] 0 Ω Ω Ψ (by rw[bt];omega)
def PZ (v:Val)(h:St1 s)(x:Int):Tot (fp v s x) TxV:=by
 have l:=h.len;have ent:=λk (Q:Int→Prop) (y:Int) (j:∀r,Q r)=>(eO h k).mono λr g=>(lG r y Ω).mono λr _=>j r;simp only[fp,vR,tt];refine⟨λ_=>(cx x 4 Ω Ω).mono λr _=>⟨λ_=>by simp[TxV],λ_=>⟨λ_=>by simp[TxV],λ_=>⟨λ_=>⟨by decide,(vu _ _).mono λt f=>f⟩,λ_=>?_⟩⟩⟩,λ_=>⟨λ_=>(cx x 2 Ω Ω).mono λr _=>⟨λ_=>by simp[TxV],λ_=>by simp[TxV]⟩,λ_=>⟨λ_=>(vu _ _).mono λt f=>f,λ_=>(cx x 6 Ω Ω).mono λr _=>⟨λ_=>by simp[TxV],λ_=>⟨λ_=>by simp[TxV],λ_=>⟨λ_=>?_,λ_=>⟨λ_=>?_,λ_=>⟨λ_=>by simp[TxV],λ_=>by simp[TxV]⟩⟩⟩⟩⟩⟩⟩⟩
 ·exact(eO h 3).mono λr g=>⟨by decide,(lG r _ Ω).mono λr _=>⟨λ_=>by simp[TxV],λ_=>by simp[TxV]⟩⟩
 ·exact(eO h 4).mono λr g=>⟨by decide,(lG r _ Ω).mono λr _=>⟨λ_=>by simp[TxV],λ_=>by simp[TxV]⟩⟩
 ·exact(eO h 2).mono λr g=>⟨by decide,(lG r _ Ω).mono λr _=>⟨λ_=>⟨by decide,(cx _ 3 Ω Ω).mono λ_ _=>by simp[TxV]⟩,λ_=>by simp[TxV]⟩⟩
open Go
def Xi {out:List Cel}{f t j:Nat}{c:Cel}(ho:f≤out.length)(R:ir (out.take f))(ht:t≤f)(p:0<t→ahd (out.getD (t-1) (zero aa)).1 (out.getD (t-1) (zero aa)).2.1 c.1 c.2.1=true)
  (r:∀k,t≤k→k<f→ahd (out.getD k (zero aa)).1 (out.getD k (zero aa)).2.1 c.1 c.2.1=false)
  (hj:(j=t∧¬(t<f∧(out.getD t (zero aa)).1=c.1∧(out.getD t (zero aa)).2.1=c.2.1))∨(j=t+1∧t<f∧(out.getD t (zero aa)).1=c.1∧(out.getD t (zero aa)).2.1=c.2.1)) :
  ir (out.take t++[c]++(out.take f).drop j):=by
 have gd:∀k,k<f→∀h:k<(out.take f).length,(out.take f)[k]=out.getD k (zero aa):=λk J h=>by rw[List.getElem_take,e_,ζ Ω];rfl
 have lt:∀a b,a<b→b<f→ahd (out.getD a (zero aa)).1 (out.getD a (zero aa)).2.1 (out.getD b (zero aa)).1 (out.getD b (zero aa)).2.1=true:=λa b h1 T=>by
  have hl:(out.take f).length=f:=by simp;omega
  have:=L_.1 R a b Ω Ω h1;rwa[gd a Ω Ω,gd b T Ω]at this
 have e:out.take t=(out.take f).take t:=by rw[asO];congr 1;omega
 have hl:(out.take f).length=f:=by simp;omega
 rw[e];unfold ir;rw[j_,j_];have p1:∀x∈(out.take f).take t,ahd x.1 x.2.1 c.1 c.2.1=true:=λx l=>by
  obtain⟨k,J,rfl⟩:=N?.1 l;have g:k<t:=by simp at J;omega
  rw[List.getElem_take,gd k Ω Ω];by_cases P:k=t-1
  ·rw[P];exact p Ω
  ·exact ga (lt k (t-1) Ω Ω) (p Ω)
 have U:∀x∈(out.take f).drop j,ahd c.1 c.2.1 x.1 x.2.1=true:=λx l=>by
  obtain⟨k,J,rfl⟩:=N?.1 l;have g:j+k<f:=by simp at J;omega
  rw[List.getElem_drop,gd (j+k) g Ω];rcases hj with⟨rfl,hn⟩|⟨rfl,h1,T,h3⟩
  ·refine OM (r _ Ω g) λh=>?_;by_cases h0:k=0
   ·subst h0;exact hn ⟨g,h⟩
   ·have:=lt j (j+k) Ω g;rw[h.1,h.2,r j Ω Ω]at this;cases this
  ·have:=lt t (t+1+k) Ω g;rwa[T,h3]at this
 refine⟨⟨R.sublist (List.take_sublist ..),List.pairwise_singleton ..,λx l y C=>?_⟩,R.sublist (List.drop_sublist ..),λx l y C=>?_⟩
 ·rw[F'.1 C];exact p1 x l
 ·obtain l|l:=Q'.1 l
  ·exact ga (p1 x l) (U y C)
  ·rw[F'.1 l];exact U y C
def FL (l:List Cel)(hs:l.length<2000000)(k:cJ (List Cel))(i:Int)(P:0≤i)(J:i<l.length)(g:Nat)(out:List Cel)(ho:g≤out.length)(hb:g<2000000)(hm:∀c∈out.take g,c∈l)(hA:ir (out.take g))(Q:List Cel→Prop)
  (hk:∀(C:Nat) (p:List Cel),C≤g+1→C≤p.length→(∀c∈p.take C,c∈l)→ir (p.take C)→Tot (k l C (i+1) p) Q):∀(n:Nat) (t:Int),0≤t→t≤g→t<n→(∀k:Nat,t.toNat≤k→k<g→ahd (out.getD k (zero aa)).1 (out.getD k (zero aa)).2.1 (ix aa l i).1 (ix aa l i).2.1=false)→Tot (jT k n l i g t out) Q
 |0,t,h2,h3,h,_=>Ω
 |n+1,t,h2,h3,h,hge=>by
  show Tot (mt false some (jT k n) k l i g t out) _;have R:∀j:Int,t≤j→j≤g→ir (out.take t.toNat++[ix aa l i]++(out.take g).drop j.toNat)→Tot (fh false some k l i t g j out) Q:=λj hj1 hj2 T=>by
   simp only[fh,mw,tt,I',o_];rw[ar (n:=i+1) Ω Ω];have e1:(out.take g).length=g:=by simp;omega
   have e2:(out.take t.toNat).length=t.toNat:=by simp;omega
   have e3:List.take (t.toNat+1) (out.take t.toNat++[ix aa l i])=out.take t.toNat++[ix aa l i]:=E? Ξ;simp only[ass,e1,q_,List.length_nil,I',e3,ni];refine⟨by simp;omega,eZ Ω,by simp;omega,aE P J,eZ Ω,eZ Ω,hk _ _ Ω Ξ (λc f=>?_) (T.sublist (List.take_sublist ..))⟩;have f:=Z_ f;obtain f|f:=Q'.1 f
   ·obtain f|f:=Q'.1 f
    ·refine hm c ?_;have:out.take t.toNat=(out.take g).take t.toNat:=by rw[asO];congr 1;omega
     rw[this]at f;exact Z_ f
    ·rw[F'.1 f];exact ji P J
   ·exact hm c (k? f)
  have hp:t>0→(decide (0≤w64 (t-1))&&decide (w64 (t-1)<(g:Int)))=true:=λh=>by rw[ar Ω Ω];simp;omega
  simp only[mt,tt,ni,I'];refine⟨au λh=>hp (by simpa using h),au λh=>hp (by simpa using h),au λ_=>aE P J,au λ_=>aE P J,by simp[aD],λf=>?_,λr=>⟨au λh=>by simp at h;simp;omega,au λ_=>aE P J,au λh=>?_,au λ_=>aE P J,λf=>?_,λU=>?_⟩⟩
  ·rw[xp]at f;have ht:t>0:=by simp at f;exact f.1
   rw[dt ht,ξ,ar (n:=t-1) Ω Ω,show(t-1).toNat=t.toNat-1 by omega]at f;rw[ar Ω Ω];refine FL l hs k i P J g out ho hb hm hA Q hk n (t-1) Ω Ω Ω λk hk1 hk2=>?_;by_cases he:k=t.toNat-1
   ·subst he;simpa using f
   ·exact hge k Ω hk2
  ·simp at h;simp;omega
  all_goals
   have hlt:0<t.toNat→ahd (out.getD (t.toNat-1) (zero aa)).1 (out.getD (t.toNat-1) (zero aa)).2.1 (ix aa l i).1 (ix aa l i).2.1=true:=λht=>by rw[xp,dt Ω,ξ,ar (n:=t-1) Ω Ω,show(t-1).toNat=t.toNat-1 by omega]at r;simpa using r
  ·have f:(t<(g:Int)∧(out.getD t.toNat (zero aa)).1=(ix aa l i).1)∧(out.getD t.toNat (zero aa)).2.1=(ix aa l i).2.1:=by simpa only[asF,ι,Δ]using f
   rw[ar Ω Ω];refine R (t+1) Ω Ω (Xi ho hA Ω hlt hge (.inr ⟨Ω,Ω,f.1.2,f.2⟩))
  ·refine R t Ω h3 (Xi ho hA Ω hlt hge (.inl ⟨rfl,λh=>?_⟩));rw[dt Ω,dt h.2.1,dt h.2.2]at U;cases U
def FM (l:List Cel)(J:l.length<2000000):∀(n:Nat) (f:Nat) (i:Int) (out:List Cel),0≤i→i≤l.length→f≤i→f≤out.length→(∀c∈out.take f,c∈l)→ir (out.take f)→l.length-i<n→Tot (oK n l f i out) λr=>r.length≤l.length∧(∀c∈r,c∈l)∧ir r
 |0,f,i,out,T,h1,h2,R,C,_,h=>Ω
 |n+1,f,i,out,T,h1,h2,R,C,P,h=>by
  show Tot (mv false some (jT (oK n) FU) l f i out) _;simp only[mv,tt,il,ni,A?];refine⟨λg=>?_,λ_=>⟨by simp;omega,C,P⟩⟩;have g:i<l.length:=by simpa using g
  exact FL l J _ i T g f out R Ω C P _ (λp j a1 a2 a3 a4=>FM l J n p (i+1) j Ω Ω Ω a2 a3 a4 Ω) FU f Ω Ω (by rw[bt];omega) (λk hk1 U=>Ω)
def PR (l:List Cel)(f:l.length<2000000):Tot (my l) λr=>r.length≤l.length∧(∀c∈r,c∈l)∧ir r:=by simp only[my,vP];exact FM l f FU 0 0 [] Ω Ω Ω Ψ (λc g=>by simp at g) (by simp[ir]) (by rw[bt];omega)
def OK (m:Mdl)(C:m.1.length≤120000)(id:Int)(r1:List Int)(i:Int)(P:0≤i)(J:i<12)(r2:List Cel)(r:r2.length≤m.1.length)(p:∀c∈r2,c∈m.1)(k:kH (List Cel))(Q:List Cel→Prop)(l:∀out:List Cel,out.length≤(i+1)*120000→(∀c∈out,c∈m.1)→Tot (k id r1 m out (i+1)) Q) :
  ∀(n:Nat) (out:List Cel) (t:Int),0≤t→t≤r2.length→out.length≤i*120000+t→(∀c∈out,c∈m.1)→r2.length-t<n→Tot (vg k n id r1 i r2 m out t) Q
 |0,out,t,j,U,T,g,R=>Ω
 |n+1,out,t,j,U,T,g,R=>by
  show Tot (BN false some (vg k n) k id r1 i r2 m out t) _;simp only[BN,xn,tt,il];rw[ar (n:=t+1) Ω Ω,ar (n:=i+1) Ω Ω];refine⟨λh=>?_,λ_=>l out Ω g⟩;have h:t<r2.length:=by simpa using h
  refine⟨aE j h,λ_=>⟨aE j h,eZ Ξ,OK m C id r1 i P J r2 r p k Q l n _ (t+1) Ω Ω Ξ (λc f=>?_) Ω⟩,λ_=>OK m C id r1 i P J r2 r p k Q l n _ (t+1) Ω Ω Ω g Ω⟩;obtain f|f:=Q'.1 f
  ·exact g c f
  ·rw[F'.1 f];exact p _ (ji j h)
def Yw (m:Mdl)(p:m.1.length≤120000)(id:Int)(r1:List Int):∀(n:Nat) (out:List Cel) (i:Int),0≤i→i≤12→out.length≤i*120000→(∀c∈out,c∈m.1)→12-i<n→Tot (BP n id r1 m out i) λr=>r.length≤1440000∧∀c∈r,c∈m.1
 |0,out,i,j,R,P,g,h=>Ω
 |n+1,out,i,j,R,P,g,h=>by
  show Tot (BQ false some (vg (BP n) FU) id r1 m out i) _;simp only[BQ,tt,il];refine⟨λf=>?_,λ_=>⟨Ω,g⟩⟩;have f:i<(([id]++r1).length:Int)∧i<12:=by simp at f;exact f
  refine⟨aE j f.1,(ajl m.1 _ Ω).mono λr2 l=>?_⟩;exact OK m p id r1 i j f.2 r2 l.1 l.2 _ _ (λout C J=>Yw m p id r1 n out (i+1) Ω Ω C J Ω) FU out 0 Ω Ω Ω g (by rw[bt];omega)
def agr (m:Mdl)(g:m.1.length≤120000)(f:∀c∈m.1,TxC c)(id:Int):Tot (pn m id) λr=>r.length≤1440000∧∀c∈r,c∈m.1:=by simp only[pn,OJ,tt];exact(Td m Ω f id).mono λr1 l=>⟨eZ Ξ,Yw m g id r1 FU [] 0 Ω Ω Ψ (λc j=>by cases j) (by rw[bt];omega)⟩
def tQ (p:Int→Int→Prop)(f:Nat)(J:f<2000000):∀(n:Nat) (i:Int) (out:List Cel),0≤i→i≤f→out.length=f→(∀c∈out,TxC c∧p c.1 c.2.1)→f-i<n→Tot (k7 n f i out) λr=>r.length≤f∧∀c∈r,TxC c∧p c.1 c.2.1
 |0,i,out,T,R,P,l,h=>Ω
 |n+1,i,out,T,R,P,l,h=>by
  show Tot (jX false some (k7 n) f i out) _;simp only[jX,jY,tt,ni,I',A?];rw[ar (n:=i+1) Ω Ω];refine⟨λg=>?_,λ_=>⟨by simp;omega,λc g=>l c (Z_ g)⟩⟩;have g:i<f:=by simpa using g
  have C:(decide (0≤i)&&decide (i<(f:Int)))=true:=by simp;omega
  refine⟨C,λ_=>⟨C,tQ p f J n (i+1) _ Ω Ω Ξ (λc g=>?_) Ω⟩,λ_=>tQ p f J n (i+1) _ Ω Ω P l Ω⟩;obtain g|rfl:=List.mem_or_eq_of_mem_set g
  ·exact l c g
  ·have j:out.getD i.toNat (zero aa)∈out:=by
    rw[e_,ζ Ω];exact r_ _
   exact⟨abI,(l _ j).2⟩
def MO (f:Int→Int→Prop)(l:List Cel)(g:l.length<2000000)(h:∀c∈l,TxC c∧f c.1 c.2.1):Tot (fx l) λr=>r.length≤l.length∧∀c∈r,TxC c∧f c.1 c.2.1:=by simp only[fx,rQ,tt,I',List.take_nil,o_];exact⟨eZ Ω,tQ f l.length g FU 0 l Ω Ω rfl h (by rw[bt];omega)⟩
def bY (x:Int):Int:=x.fdiv 1048576
def acD (x:Int):aV .i64 x 20=bY x:=rfl
def zC {s:Int}:bY x=s↔s*1048576≤x∧x<(s+1)*1048576:=by unfold bY;rw[ats _ Ω];omega
def Vc (x y:Int):x≤uu x y∧y≤uu x y∧(uu x y=x∨uu x y=y):=by unfold uu;split <;> omega
def Hd (l:List Com)(s:Int)(hl:l.length≤100)(P:List Com)(c:Com)(R:List Com)(p:l=P++c::R)(hw:(ws c).length<1000000)(g:Int)(k:dJ Int)(Q:Int→Prop)(T:∀x,bY x=s→g≤x→Tot (k l s x ((P.length:Int)+1)) Q):∀(n:Nat) (x t:Int),bY x=s→g≤x→0≤t→t≤(ws c).length→(ws c).length-t<n→Tot (lJ k n l s P.length x t) Q
 |0,x,t,C,r,U,a3,h=>Ω
 |n+1,x,t,C,r,U,a3,h=>by
  show Tot (um false some (lJ k n) k l s P.length x t) _;have f:(P.length:Int)<l.length:=by rw[p];simp;omega
  have ec:ix tCommit l (P.length:Int)=c:=by rw[p];exact bN (t:=tCommit) P c R
  simp only[um,qy,up,tt,il,acD];rw[ec,ar (n:=t+1) Ω Ω,ar (n:=(P.length:Int)+1) Ω Ω];show bd _ _=true∧(decide (t<((ws c).length:Int))=true→bd _ _=true∧bd t (ws c).length=true∧_∧(decide (bY (ix aa (ws c) t).1=s)=true→bd _ _=true∧bd t (ws c).length=true∧_)∧_)∧_;refine⟨aE Ω f,λj=>?_,λ_=>T x C r⟩;have j:t<(ws c).length:=by simpa using j
  refine⟨aE Ω f,aE U j,by decide,λJ=>⟨aE Ω f,aE U j, ?_⟩,λ_=>Hd l s hl P c R p hw g k Q T n x (t+1) C r Ω Ω Ω⟩;have J:bY (ix aa (ws c) t).1=s:=by simpa using J
  have hm:=Vc x (ix aa (ws c) t).1;refine Hd l s hl P c R p hw g k Q T n (uu x (ix aa (ws c) t).1) (t+1) ?_ (ata r hm.1) Ω Ω Ω;obtain e|e:=hm.2.2
  ·rw[e];exact C
  ·rw[e];exact J
def Ra (l:List Com)(s:Int)(hl:l.length≤100)(U:∀c∈l,(ws c).length<1000000):∀(n:Nat) (R P:List Com) (x:Int),l=P++R→R.length<n→bY x=s→(∀c∈P,bY c.1=s→c.1≤x)→Tot (qx n l s x P.length) λr=>bY r=s∧∀c∈l,bY c.1=s→c.1≤r
 |0,R,P,x,f,h2,T,h4=>Ω
 |n+1,R,P,x,f,h2,T,h4=>by
  show Tot (uo false some (lJ (qx n) FU) l s x P.length) _;simp only[uo,qz,tt,il,acD];cases R with
  |nil=>
   have e:l=P:=by simpa using f
   subst e;exact⟨λh=>by simp at h,λ_=>⟨T,h4⟩⟩
  |cons c R=>
   have J:(P.length:Int)<l.length:=by rw[f];simp;omega
   have ec:ix tCommit l (P.length:Int)=c:=by rw[f];exact bN (t:=tCommit) P c R
   rw[ec];have go:∀g,bY g=s→x≤g→(bY c.1=s→c.1≤g)→Tot (lJ (qx n) FU l s P.length g 0) λr=>bY r=s∧∀c∈l,bY c.1=s→c.1≤r:=λg b1 b2 b3=>by
    refine Hd l s hl P c R f (U c (by rw[f];simp)) g _ _ (λy hy j=>?_) FU g 0 b1 (asn _) Ω Ω (by rw[bt];have:=U c (by rw[f];simp);omega);have:=Ra l s hl U n R (P++[c]) y (by rw[f];simp) (by simp at h2;omega) hy λd C hs=>?_
    ·simpa using this
    ·obtain C|C:=Q'.1 C
     ·exact ata (h4 d C hs) (ata b2 j)
     ·rw[F'.1 C]at hs⊢;exact ata (b3 hs) j
   refine⟨λ_=>⟨aE Ω J,by decide,λp=>⟨aE Ω J, ?_⟩,λp=>go x T (asn _) λe=>by simp[e]at p⟩,λh=>by simp at h;omega⟩;have p:bY c.1=s:=f_ p;have hm:=Vc x c.1;refine go (uu x c.1) ?_ hm.1 λ_=>hm.2.1;obtain e|e:=hm.2.2
   ·rw[e];exact T
   ·rw[e];exact p
def KS (l:List Com)(s:Int)(C:1≤s)(p:s≤3)(g:l.length≤100)(f:∀c∈l,(ws c).length<1000000):Tot (qA l s) λr=>bY r=s∧∀c∈l,bY c.1=s→c.1≤r:=by
 simp only[qA,EB,tt];have e:acE .i64 s 20=s*1048576:=by show w64 (s*1048576)=_;exact ar Ω Ω
 rw[e];exact⟨by decide,Ra l s g f FU l [] (s*1048576) rfl (by rw[bt];omega) (zC.2 Ω) λc j=>by cases j⟩
def AQ (l:List Com)(c:Com)(hl:l.length≤100):∀(n:Nat) (R P:List Com),l=P++R→R.length<n→(∀d∈P,d.1<c.1)→Tot (o8 n l c P.length) λr=>∃P R,l=P++R∧r=P++c::R∧(∀d∈P,d.1<c.1)∧∀d U,R=d::U→¬d.1<c.1
 |0,R,P,f,h2,J=>Ω
 |n+1,R,P,f,h2,J=>by
  show Tot (m0 false some (o8 n) l c P.length) _;have p:P.length+R.length=l.length:=by rw[f];simp
  simp only[m0,tt,il,A?,o_,X_];rw[ar (n:=(P.length:Int)+1) Ω Ω];refine⟨au λh=>aE Ω (by simpa using h),λg=>?_,λg=>?_⟩
  ·simp only[asF,ι,Δ]at g;cases R with
   |nil=>simp at p;omega
   |cons d R=>
    have T:ix tCommit l (P.length:Int)=d:=by rw[f];exact bN (t:=tCommit) P d R
    rw[T]at g;have:=AQ l c hl n R (P++[d]) (by rw[f];simp) (by simp at h2;omega) λe j=>by
     obtain j|j:=Q'.1 j
     ·exact J e j
     ·rw[F'.1 j];exact g.2
    simpa using this
  ·have e1:l.take P.length=P:=by rw[f];simp
   have e2:l.drop P.length=R:=by rw[f];simp
   have hq:(decide (0≤(P.length:Int))&&decide ((P.length:Int)≤(l.length:Int)))=true:=by simp;omega
   simp only[Int.toNat_natCast,e1,e2];refine⟨hq,eZ Ξ,eZ Ξ,hq,eZ Ξ,P,R,f,Ψ,J,λd U e=>?_⟩;subst e;have T:ix tCommit l (P.length:Int)=d:=by rw[f];exact bN (t:=tCommit) P d U
   rw[T]at g;have C:(P.length:Int)<l.length:=by simp at p;omega
   simpa[C]using g
def Rz (l:List Com)(c:Com)(f:l.length≤100):Tot (m9 l c) λr=>∃P R,l=P++R∧r=P++c::R∧(∀d∈P,d.1<c.1)∧∀d j,R=d::j→¬d.1<c.1:=by
 simp only[m9,wL];exact AQ l c f FU l [] rfl (by rw[bt];omega) λd g=>by cases g
open Go
def aoU (s:Sta)(f:List (Int×Int))(c:Cel):Prop:=TxC c∧((∃x∈s.1,x.1=c.1∧x.2.1=c.2.1)∨(c.1,c.2.1)∈f)
def WP (s:Sta)(w:List Cel):Prop:=w.length<2000000∧∃f:List (Int×Int),f.length≤11∧∀c∈w,aoU s f c
def WQ (s:Sta)(w:List Cel):Prop:=WP s w∧ir w
def xZ (w:List Cel)(h:w.length≤11)(g:∀c∈w,TxC c):WP s ([]++w) :=
 ⟨by simp;omega,w.map λc=>(c.1,c.2.1),by simp;omega,λc f=>by
  have f:c∈w:=by simpa using f
  exact⟨g c f,.inr (y_.2 ⟨c,f,rfl⟩)⟩⟩
def agE (r w:List Cel)(l:r.length≤1440000)(g:∀c∈r,TxC c∧∃x∈s.1,x.1=c.1∧x.2.1=c.2.1)(h:w.length≤11)(j:∀c∈w,TxC c):WP s (([]++r)++w) :=
 ⟨by simp;omega,w.map λc=>(c.1,c.2.1),by simp;omega,λc f=>by
  obtain f|f:=Q'.1 f
  ·have f:c∈r:=by simpa using f
   exact⟨(g c f).1,.inl (g c f).2⟩
  ·exact⟨j c f,.inr (y_.2 ⟨c,f,rfl⟩)⟩⟩
def Tz (r:List Cel)(j:r.length≤1440000)(f:∀c∈r,TxC c∧∃x∈s.1,x.1=c.1∧x.2.1=c.2.1):WP s r :=
 ⟨Ω,[],Ψ,λc g=>⟨(f c g).1,.inl (f c g).2⟩⟩
def cQ (h:WP s w):Tot (dV w) (WQ s):=by simp[dV,od,tt];obtain⟨p,C,l,j⟩:=h;exact(PR w p).mono λr f=>⟨⟨Ω,C,l,λc g=>j c (f.2.1 c g)⟩,f.2.2⟩
def tx1 {id f:Int}{v:Val}(h:TxV v):∀c∈[(id,f,v,())],TxC c:=λc g=>by rw[F'.1 g];exact h
def Fc (id t a b c d:Int):Tot (dW id t a b c d) (WQ s):=by simp only[dW,oh,tt];exact(vu _ _).mono λr f=>⟨eZ Ψ,cQ (xZ _ Ψ (tx1 f))⟩
def Fb (id a:Int)(b:Bool)(t:Str)(f:Sh t)(c:Int):Tot (iy id a b t c) (WQ s):=by simp only[iy,oe,tt];exact⟨eZ Ψ,cQ (xZ _ Ψ (tx1 f))⟩
def Tx (h:St1 s)(hs:s.1.length≤120000)(P:Int)(r2 r3 r4:List Int)(h2:r2.length≤120000)(h3:r3.length≤120000)(h4:r4.length≤120000)(r5:Int)(t:Bool)(a b c d:Int):Tot (iz P r2 r3 r4 r5 t s.1 a b c d (bh s).1) (WQ s):=by
 have hm:=adI h;have J:∀id,Tot (pn ((bh s).1,()) id) λr=>r.length≤1440000∧∀c∈r,TxC c∧∃x∈s.1,x.1=c.1∧x.2.1=c.2.1:=λid=>(agr (bh s) Ω (λc C=>(hm.1 c C).1) id).mono λr hr=>⟨hr.1,λc C=>hm.1 c (hr.2 c C)⟩;have R:∀r:List Cel,r.length≤1440000→(∀c∈r,TxC c∧∃x∈s.1,x.1=c.1∧x.2.1=c.2.1)→Tot (fx r) λr=>r.length≤1440000∧∀c∈r,TxC c∧∃x∈s.1,x.1=c.1∧x.2.1=c.2.1:=λr h1 h2=>(MO (λa b=>∃x∈s.1,x.1=a∧x.2.1=b) r Ω h2).mono λq g=>⟨Ω,g.2⟩;have rd:∀id f,Tot (gt (s.1,()) id f) TxV:=λid f=>ZB h id f;have T:∀k,Tot (bi (s.1,()) k) λr=>r.length≤120000:=λk=>(eO h k).mono λr hr=>Ω
 have U:∀v x,Tot (fp v (s.1,()) x) TxV:=λv x=>PZ v h x;have p:∀(l:List Int) x,l.length≤240000→Tot (bw l x) λ_=>True:=λl x hl=>(lG l x Ω).mono λ_ _=>trivial;simp only[iz,og,tt];refine⟨λ_=>?_,λ_=>⟨λ_=>?_,λ_=>⟨λ_=>?_,λ_=>⟨λ_=>?_,λ_=>⟨λ_=>?_,λ_=>⟨λ_=>?_,λ_=>⟨λ_=>?_,λ_=>⟨λ_=>?_,λ_=>⟨λ_=>?_,λ_=>?_⟩⟩⟩⟩⟩⟩⟩⟩⟩
 ·exact(p _ _ Ω).mono λr _=>(rd _ _).mono λv _=>(U _ _).mono λv j=>⟨eZ Ψ,cQ (xZ _ Ψ (tx1 j))⟩
 ·exact(p _ _ Ω).mono λr _=>(cx _ 3 Ω Ω).mono λ_ _=>⟨by decide,(Pq _).mono λv j=>⟨eZ Ψ,cQ (xZ _ Ψ (tx1 j))⟩⟩
 ·exact(p _ _ Ω).mono λr _=>(T _).mono λe he=>(p _ _ Ω).mono λ_ _=>⟨by decide,(Hw _).mono λv j=>⟨eZ Ψ,cQ (xZ _ Ψ (tx1 j))⟩⟩
 ·exact(p _ _ Ω).mono λr _=>(p _ _ Ω).mono λ_ _=>(rd _ _).mono λv j=>⟨eZ Ψ,cQ (xZ _ Ψ (tx1 j))⟩
 ·refine(p _ _ Ω).mono λr _=>(rd _ _).mono λv j=>(J _).mono λq g=>(R q g.1 g.2).mono λq g=>⟨eZ Ξ,(rd _ _).mono λv2 _=>(U _ _).mono λv3 hv3=>⟨eZ Ξ,cQ (agE q _ g.1 g.2 Ψ ?_)⟩⟩;intro c C;simp at C;obtain rfl|rfl|rfl:=C
  ·simp[TxC,TxV]
  ·exact j
  ·exact hv3
 ·refine(T _).mono λe he=>(p _ _ Ω).mono λ_ _=>(Hw _).mono λk hk=>(vu _ _).mono λwd hwd=>⟨by decide,(U _ _).mono λv j=>⟨eZ Ψ,cQ (xZ _ Ψ ?_)⟩⟩;intro c C;simp at C;obtain rfl|rfl|rfl|rfl|rfl|rfl|rfl|rfl|rfl|rfl|rfl:=C;all_goals first|exact j|exact hk|exact hwd|simp[TxC,TxV]
 ·exact(T _).mono λe he=>⟨eZ Ω,(p _ _ Ξ).mono λr _=>(J _).mono λq g=>(R q g.1 g.2).mono λq g=>cQ (Tz q g.1 g.2)⟩
 ·exact(T _).mono λe he=>(p _ _ Ω).mono λr _=>(rd _ _).mono λv j=>⟨λ_=>(Hw _).mono λk hk=>Fb _ _ _ _ hk _,λ_=>Fb _ _ _ _ j _⟩
 ·exact(p _ _ Ω).mono λr _=>(J _).mono λq g=>cQ (Tz q g.1 g.2)
 ·exact cQ (Tz [] Ψ λc C=>by cases C)
def C3 (h:St1 s)(R:s.1.length≤120000)(d:bm.den)(g:Int):Tot (dX s d g) (WQ s):=by
 have p:∀k,Tot (bi s k) λr=>r.length≤120000:=λk=>(eO h k).mono λr U=>Ω
 have C:∀(l:List Int) x,l.length≤120000→Tot (bw l x) λ_=>True:=λl x hl=>(lG l x Ω).mono λ_ _=>trivial;simp only[dX,vq,oa,rl,tt];refine⟨h.stg,(p _).mono λr2 P=>(p _).mono λr3 T=>(p _).mono λr4 J=>(cx _ 13 Ω Ω).mono λr5 _=>?_⟩;have j:∀t:Bool,(t=true→Tot (bw r2 d.2.2.1) λr=>Tot (gu (s.1,()) r) λf=>((bif (decide (f=5))then true else(decide (f=0)))=true→Tot (bw r4 d.2.2.1) λr=>Tot (dW r 2 d.1 d.2.1 d.2.2.1 d.2.2.2.1) (WQ s))∧((bif (decide (f=5))then true else(decide (f=0)))=false→Tot (dW r f d.1 d.2.1 d.2.2.1 d.2.2.2.1) (WQ s))):=λ_ _=>(C _ _ P).mono λr _=>(wH s r (h.place r 1)).mono λk _=>⟨λ_=>(C _ _ J).mono λr _=>Fc _ _ _ _ _ _,λ_=>Fc _ _ _ _ _ _⟩;have r17:=λt=>Tx h R g r2 r3 r4 P T J r5 t d.1 d.2.1 d.2.2.1 d.2.2.2.1;exact⟨λ_=>⟨j _,λ_=>⟨λ_=>r17 _,λ_=>r17 _⟩⟩,λ_=>⟨j _,λ_=>⟨λ_=>r17 _,λ_=>r17 _⟩⟩⟩
def KP {g:Type}[DecidableEq g]:∀{a b:List g},a.Nodup→(∀x∈a,x∈b)→a.length≤b.length
 |[],b,_,_=>by simp
 |x::a,b,h,hs=>by
  have h:=atn.1 h;have l:=hs x (c_ ..);have:=KP (a:=a) (b:=b.erase x) h.2 λy j=>by have f:=hs y (C' _ j);exact(List.mem_erase_of_ne (λe:y=x=>h.1 (by rw[←e];exact j))).2 f
  rw[List.length_erase_of_mem l]at this;have:=List.length_pos_of_mem l;simp;omega
def Ni (h:WP s w)(r:ir w):w.length≤s.1.length+11:=by
 obtain⟨_,R,T,P⟩:=h;have C:(w.map λc=>(c.1,c.2.1)).Nodup:=by unfold List.Nodup;rw[asl];refine r.imp λ{a b} f e=>?_;have j:a.1=b.1:=(π .. ▸ e).1;have g:a.2.1=b.2.1:=(π .. ▸ e).2;rw[j,g,da]at f;omega
 have:=KP (b:=(s.1.map λx=>(x.1,x.2.1))++R) C λx p=>by
  obtain⟨c,J,rfl⟩:=y_.1 p;rcases(P c J).2 with⟨y,l,j,g⟩|h
  ·exact T_ _ (y_.2 ⟨y,l,by rw[j,g]⟩)
  ·exact arW _ h
 simp at this;omega
open Go
def TG (h:vn x):bY (x-1)=bY x:=by
 obtain⟨l,j,g⟩:=h;have e:bY x*1048576≤x∧x<(bY x+1)*1048576:=zC.1 rfl;refine zC.2 ⟨?_,Ω⟩;by_cases f:x=bY x*1048576
 ·exfalso;apply g;rw[f];exact Int.mul_tmod_left _ _
 ·omega
structure NewC (l:List Com)(c:Com):Prop where
 par:c.2.1.length≤4
 txt:∀x∈ws c,TxC x
 ord:ir (ws c)
 len:(ws c).length≤dy l+11
 new:∀d∈l,¬d.1=c.1
def aot {a:Int}(h:a≤a-1):False:=Ω
def amL {s:Int}(f:vn c.1)(g:bY (c.1-1)=s)(h:∀d∈l,bY d.1=s→d.1≤c.1-1):∀d∈l,¬d.1=c.1:=λd j e=>by have:=h d j (by rw[e,←TG f,g]);exact aot (e ▸ this)
def Iq (hs:St1 s)(g:Int)(f j:List Int)(p:Str)(w:List Cel)(h1:f.length≤4)(h2:j.length≤4)(h3:p.length≤100)(U:w.length<1000000)(T:∀x∈w,TxC x)
  (R:ir w→w.length≤dy l+11) {site:Int} (C:bY (g-1)=site) (P:∀d∈l,bY d.1=site→d.1≤g-1) :
  Tot (kB false some s g f j p w) λr=>r.2.1=true→NewC l r.1:=by
 simp[kB,tt];refine(R0 s (g,f,j,p,w,()) (λid=>hs.place id 1) (by show f.length<_;omega) (by show j.length<_;omega) (by show p.length<_;omega) U T).mono λr J e=>?_;have J:=J (by simpa using e);exact⟨h1,T,J.2,R J.2,amL J.1 C P⟩
def WM {s:Int}(h:bY x=s)(g:1≤s)(f:s≤3):0≤x∧x<4194304:=by have:=zC.1 h;omega
def LK (J:H0 l)(hn:l≠[])(hw:dy l≤60000)(r1:Int)(a1:0≤r1)(a2:r1<3)(d:bm.den)(f:List Int)(hp:f.length≤4) :
  Tot (nB false some l r1 d f) λr=>r.2.1=true→NewC l r.1:=by
 have hfew:=J.few;have hlen:0<l.length:=List.length_pos_iff.2 hn;have j:∀c∈l,(ws c).length<1000000:=λc p=>by have:=E3 p;omega
 simp only[nB,tt,il];rw[ar (n:=1+r1) Ω Ω];refine(YV l f J.isFew Ω).mono λr5 h5=>(LY l J r5 Ω).mono λs hs=>(KS l (1+r1) Ω Ω Ω j).mono λr7 h7=>(cx d.1 13 Ω Ω).mono λr8 _=>⟨λ_=>?_,λ_=>?_⟩
 ·refine(cx d.2.2.1 (l.length:Int) Ω Ω).mono λr9 U=>⟨aE U.1 U.2, ?_⟩;have hm:=ji (t:=tCommit) (l:=l) U.1 U.2;have hb:=WM h7.1 Ω Ω;have R:=E3 hm;refine Iq (hs.st1 J) _ r5 [_] _ _ Ω Ψ Ψ (j _ hm) (J.txt _ hm) (λ_=>υ R Ω) (site:=1+r1) ?_ ?_
  ·rw[ar Ω Ω,asf];exact h7.1
  ·rw[ar Ω Ω,asf];exact h7.2
 ·have T:=hs.st1 J;have hsl:s.1.length≤dy l:=by
   obtain⟨_,_,_,_,h⟩:=hs;exact h.len
  refine(C3 T Ω d r7).mono λw ⟨g,hwo⟩=>have P:w.length<1000000:=(by have:=Ni g hwo;omega);⟨eZ Ξ,eZ Ξ, ?_⟩
  rw[o_];refine(KS (l++[(0,r5,[],[100,101,101,100],w,())]) (1+r1) Ω Ω Ξ (λc p=>?_)).mono λr11 C=>?_
  ·obtain p|p:=Q'.1 p
   ·exact j c p
   ·rw[F'.1 p];exact P
  ·have hb:=WM C.1 Ω Ω;refine Iq T _ r5 [] _ w Ω Ψ Ψ P (λx hx=>?_) (λho=>by have:=Ni g ho;omega) (site:=1+r1) ?_ ?_
   ·obtain⟨_,ex,_,h⟩:=g;exact(h x hx).1
   ·rw[ar Ω Ω,asf];exact C.1
   ·rw[ar Ω Ω,asf];exact λd hd=>C.2 d (T_ _ hd)
def SS (J:H0 l)(C:l≠[])(p:dy l≤60000)(f:List Int)(m1:0<f.length)(m2:f.length≤100)(d:bm.den) :
  Tot (nC l f d) λr=>r.2.1=true→NewC l r.1:=by
 have j:∀k:Int,0≤k→bd (uu (w64 (w64 ((f.length:Int)-1)-k)) 0) f.length=true∨10<k:=λk T=>by
  by_cases h:10<k
  ·exact .inr h
  ·left;rw[ar (n:=(f.length:Int)-1) Ω Ω,ar Ω Ω];have:=Vc ((f.length:Int)-1-k) 0;exact aE this.2.1 (by obtain e|e:=this.2.2 <;> rw[e] <;> omega)
 simp only[nC,wY,tt,il];refine(cx _ 3 Ω Ω).mono λr1 g=>⟨by decide,(cx _ 3 Ω Ω).mono λr2 R=>⟨(j r2 R.1).resolve_right Ω,by decide,(cx _ 3 Ω Ω).mono λr3 _=>⟨λ_=>⟨by decide,(cx _ (f.length:Int) Ω Ω).mono λr4 P=>⟨aE P.1 P.2,eZ Ψ, ?_⟩⟩,λ_=>?_⟩⟩⟩
 ·exact LK J C p r1 g.1 g.2 d _ (asz rfl)
 ·exact LK J C p r1 g.1 g.2 d _ (asz rfl)
def am1 {P R:List Com}(p:H0 (P++R))(r:NewC (P++R) c)(h1:∀d∈P,d.1<c.1)(h2:∀d R',R=d::R'→¬d.1<c.1)(hn:(P++R).length<20)(hs:2*dy (P++R)+11≤500000):H0 (P++c::R)∧dy (P++c::R)≤2*dy (P++R)+11:=by
 have T:dy (P++c::R)=dy (P++R)+(ws c).length:=by rw[dO,dO];show _+((ws c).length+dy R)=_;omega
 have U:=r.len;have j:∀d∈P++c::R,d=c∨d∈P++R:=λd g=>by
  simp at g⊢;obtain h|h|h:=g
  ·exact .inr (.inl h)
  ·exact .inl h
  ·exact .inr (.inr h)
 have hR:∀d∈R,c.1<d.1:=by
  have f:=(j_.1 p.asc).2.1;cases R with
  |nil=>intro d g;cases g
  |cons e R=>
   have he:=h2 e R rfl;have C:=r.new e Ψ;have l:c.1<e.1:=Int.lt_iff_le_and_ne.2 ⟨Int.not_lt.1 he,λh=>C h.symm⟩;intro d g;obtain rfl|g:=N'.1 g
   ·exact l
   ·exact Int.lt_trans l ((b_.1 f).1 d g)
 refine⟨⟨by simp at hn⊢;omega, ?_,λd g=>?_,λd g=>?_,λd g=>?_,Ω⟩,Ω⟩
 ·have f:=j_.1 p.asc;rw[j_];refine⟨f.1,b_.2 ⟨hR,f.2.1⟩,λa ha b J=>?_⟩;obtain rfl|J:=N'.1 J
  ·exact h1 a ha
  ·exact f.2.2 a ha b J
 ·obtain rfl|h:=j d g
  ·exact r.par
  ·exact p.par d h
 ·obtain rfl|h:=j d g
  ·exact r.ord
  ·exact p.ord d h
 ·obtain rfl|h:=j d g
  ·exact r.txt
  ·exact p.txt d h
structure First1 (c:Com):Prop where
 par:c.2.1.length≤4
 ord:ir (ws c)
 txt:∀x∈ws c,TxC x
 len:(ws c).length≤200
def First1.h0 (h:First1 c):H0 [c]:=by
 refine⟨Ψ,Ψ,λd f=>?_,λd f=>?_,λd f=>?_,by have:=h.len;simp[dy];omega⟩;all_goals rw[F'.1 f]
 ·exact h.par
 ·exact h.ord
 ·exact h.txt
def bnd:Nat→Nat
 |0=>200
 |n+1=>2*bnd n+11
def Wc:∀{a b:Nat},a≤b→bnd a≤bnd b
 |a,b,h=>by
  induction h with
  |refl=>exact δ _
  |step _ f=>exact υ f (by simp[bnd];omega)
structure HisP (n:Nat)(l:List Com):Prop where
 h0:H0 l
 ne:l≠[]
 len:l.length≤n+1
 sum:dy l≤bnd n
def HisP.ins {P R:List Com}(h:HisP n (P++R))(g:NewC (P++R) c)(l:∀d∈P,d.1<c.1)(j:∀d p,R=d::p→¬d.1<c.1)(C:n<9):HisP (n+1) (P++c::R):=by have r:=h.sum;have J:bnd n≤54005:=Wc (b:=8) Ω;have f:=h.len;have:=am1 h.h0 g l j Ω Ω;exact⟨this.1,Ψ,by simp at f⊢;omega,by have:=this.2;simp[bnd];omega⟩
def HisP.mono (h:HisP n l):HisP (n+1) l :=
 ⟨h.h0,h.ne,by have:=h.len;omega,υ h.sum (Wc Ω)⟩
def HisP.upto {m:Nat}(h:HisP n l)(f:n≤m):HisP m l:=by
 induction f with
 |refl=>exact h
 |step _ g=>exact g.mono
def pD (l:List bm.den):∀(n:Nat) (out:List Com) (f:List Int) (i:Nat),HisP i out→0<f.length→f.length≤i+1→i≤9→9-i<n→Tot (lu n l out f i) λr=>HisP 9 r
 |0,out,f,i,g,C,h3,J,h5=>Ω
 |n+1,out,f,i,g,C,h3,J,h5=>by
  show Tot (ku false some (lu n) l out f i) _;simp only[ku,kw,tt,il];have e1:w64 ((i:Int)+1)=((i+1:Nat):Int):=by rw[ar Ω Ω];omega
  rw[e1];refine⟨λj=>?_,λ_=>?_⟩
  ·have j:i<l.length∧i<9:=by
    simp at j;omega
   have hb:bnd i≤54005:=Wc (b:=8) Ω;have hs:=g.sum;refine⟨aE Ω Ω,(SS g.h0 g.ne Ω f C Ω _).mono λr T=>⟨λU=>?_,λ_=>?_⟩⟩
   ·refine(Rz out r.1 (by have:=g.len;omega)).mono λr3 p=>⟨eZ Ξ, ?_⟩;obtain⟨P,R,rfl,rfl,a1,a2⟩:=p;exact pD l n _ _ (i+1) (g.ins (T U) a1 a2 j.2) Ψ Ξ Ω Ω
   ·exact pD l n _ _ (i+1) g.mono C Ω Ω Ω
  ·exact g.upto J
open Go
def aiP:Cel→List Cel→Bool
 |_,[]=>true
 |a,b::r=>ahd a.1 a.2.1 b.1 b.2.1&&aiP b r
def aon:List Cel→Bool
 |[]=>true
 |a::r=>aiP a r
def QO:∀{r:List Cel} {a:Cel},aiP a r=true→Chn a r
 |[],_,_=>trivial
 |b::r,a,h=>by simp[aiP]at h;exact⟨h.1,QO h.2⟩
def adm {l:List Cel}(h:aon l=true):ir l:=by
 cases l with
 |nil=>exact List.Pairwise.nil
 |cons a r=>exact Oy (QO h)
def N2 (c:Com):Bool:=(c.2.1.length≤4&&aon (ws c)&&((ws c).all (λx=>decide (x.2.2.1.2.2.1.length<1000))))&&(ws c).length≤200
def VH (h:N2 c=true):First1 c:=by simp only[N2,ι,Δ,d_]at h;exact⟨h.1.1.1,adm h.1.1.2,h.1.2,h.2⟩
def aoB (n:Int):N2 (fstL n)=true:=by unfold fstL;split <;> kernel_rfl
def aeq (x:Int):First1 (firstF x):=VH (aoB _)
def First1.his (h:First1 c):HisP 0 [c]:=⟨h.h0,Ψ,Ψ,by have:=h.len;simp[dy,bnd];omega⟩
def NR (first:Int)(l:List bm.den):Tot (dT first l) (HisP 9):=by simp[dT,sw,tt];exact pD l FU [firstF first] [(firstF first).1] 0 (aeq first).his Ψ Ψ Ω (by rw[bt];omega)
open Go
def wrS (f:Int)(c:Cel):Slt:=(c.1,c.2.1,[(f,c.2.2.1,())],())
def upto (x:Slt)(c:Cel):Bool:=!ahd x.1 x.2.1 c.1 c.2.1
def km (x:Slt)(w:List Cel):Bool:=w.any λc=>c.1=x.1&&c.2.1=x.2.1
def fB (f:Int):List Slt→List Cel→List Slt
 |[],w=>w.map (wrS f)
 |x::xs,w=>(w.takeWhile (upto x)).map (wrS f)++(if km x w=true then[]else[x])++fB f xs (w.dropWhile (upto x))
def mz (f:Int)(s:Sta)(w:List Cel):Sta:=w.foldl (λs c=>de s c.1 c.2.1 [(f,c.2.2.1,())]) s
def ag3 (f:Int)(u:Unit)(c:Cel):de ([],u) c.1 c.2.1 [(f,c.2.2.1,())]=([wrS f c],()):=rfl
def alY (f:Int)(u:Unit)(c:Cel){x:Slt}(h:ahd x.1 x.2.1 c.1 c.2.1=true):(de (x::xs,u) c.1 c.2.1 [(f,c.2.2.1,())]).1=x::(de (xs,u) c.1 c.2.1 [(f,c.2.2.1,())]).1:=by simp[de,before,ju,O_,asV,h]
def alZ (f:Int)(u:Unit)(c:Cel){x:Slt}(h:ahd x.1 x.2.1 c.1 c.2.1=false):(de (x::xs,u) c.1 c.2.1 [(f,c.2.2.1,())]).1=wrS f c::(if x.1=c.1∧x.2.1=c.2.1 then xs else x::xs):=by simp[de,before,ju,O_,asV,h,wrS];rfl
def Yy (a b:Int):ahd a b a b=false:=by
 cases h:ahd a b a b with
 |false=>rfl
 |true=>rw[da]at h;omega
def Xs {c d:Cel}(h:ig c d)(e:(decide (d.1=c.1)&&decide (d.2.1=c.2.1))=true):False:=by simp at e;rw[ig,e.1,e.2,Yy]at h;cases h
def Hn (g:Int)(u:Unit)(c:Cel):∀(xs:List Slt) (w:List Cel),xs.Pairwise dz→(∀d∈w,ig c d)→fB g xs (c::w)=fB g (de (xs,u) c.1 c.2.1 [(g,c.2.2.1,())]).1 w
 |[],w,_,hw=>by
  have l:w.takeWhile (upto (wrS g c))=[]:=by
   cases w with
   |nil=>rfl
   |cons d w=>exact Q_ (by have:=hw d Ψ;unfold ig at this;simp[upto,wrS,this])
  have f:w.dropWhile (upto (wrS g c))=w:=by
   cases w with
   |nil=>rfl
   |cons d w=>exact J_ (by have:=hw d Ψ;unfold ig at this;simp[upto,wrS,this])
  have j:km (wrS g c) w=false:=by rw[km,J?];intro d f;have:=hw d f;exact λh=>Xs this h
  rw[ag3];simp[fB,l,f,j]
 |x::xs,w,hx,hw=>by
  obtain⟨h1,T⟩:=b_.1 hx;have skip:∀P:List Slt,fB g (wrS g c::P) w=wrS g c::fB g P w:=λP=>by
   have l:w.takeWhile (upto (wrS g c))=[]:=by
    cases w with
    |nil=>rfl
    |cons d w=>exact Q_ (by have:=hw d Ψ;unfold ig at this;simp[upto,wrS,this])
   have f:w.dropWhile (upto (wrS g c))=w:=by
    cases w with
    |nil=>rfl
    |cons d w=>exact J_ (by have:=hw d Ψ;unfold ig at this;simp[upto,wrS,this])
   have j:km (wrS g c) w=false:=by rw[km,J?];intro d f;have:=hw d f;exact λh=>Xs this h
   simp[fB,l,f,j]
  cases r:ahd x.1 x.2.1 c.1 c.2.1 with
  |true=>
   have C:∀d∈w,ahd x.1 x.2.1 d.1 d.2.1=true:=λd f=>ga r (hw d f);have l:w.takeWhile (upto x)=[]:=by
    cases w with
    |nil=>rfl
    |cons d w=>exact Q_ (by simp[upto,C d Ψ])
   have f:w.dropWhile (upto x)=w:=by
    cases w with
    |nil=>rfl
    |cons d w=>exact J_ (by simp[upto,C d Ψ])
   have no:∀d:Cel,ahd x.1 x.2.1 d.1 d.2.1=true→¬(d.1=x.1∧d.2.1=x.2.1):=λd h ⟨e1,e2⟩=>by rw[e1,e2,Yy]at h;cases h
   have j:km x w=false:=by rw[km,J?];intro d f;have:=no d (C d f);simpa using this
   have R:km x (c::w)=false:=by rw[km,asY,Bool.or_eq_false_iff];refine⟨?_,j⟩;have:=no c r;simpa using this
   rw[alY g u c r];simp only[fB,l,f,j,R];rw[Q_ (by simp[upto,r]),J_ (by simp[upto,r]),Hn g u c xs w T hw]
  |false=>
   have U:upto x c=true:=by simp[upto,r]
   rw[alZ g u c r,skip];rw[fB,atr U,ase U];by_cases p:x.1=c.1∧x.2.1=c.2.1
   ·rw[β p];have j:km x (c::w)=true:=by simp[km,p.1,p.2]
    have J:∀d∈w,ahd x.1 x.2.1 d.1 d.2.1=true:=λd f=>by rw[p.1,p.2];exact hw d f
    have l:w.takeWhile (upto x)=[]:=by
     cases w with
     |nil=>rfl
     |cons d w=>exact Q_ (by simp[upto,J d Ψ])
    have f:w.dropWhile (upto x)=w:=by
     cases w with
     |nil=>rfl
     |cons d w=>exact J_ (by simp[upto,J d Ψ])
    rw[j,l,f];simp
   ·rw[ο p];have j:km x (c::w)=km x w:=by
     rw[km,asY];have:(decide (c.1=x.1)&&decide (c.2.1=x.2.1))=false:=by
      simp only[asG,x?];by_cases h:c.1=x.1
      ·right;exact λT=>p ⟨h.symm,T.symm⟩
      ·left;exact h
     rw[this];rfl
    rw[j];simp[fB]
def FQ (f:Int):∀(w:List Cel) (s:Sta),s.1.Pairwise dz→w.Pairwise ig→(mz f s w).1=fB f s.1 w
 |[],s,_,_=>by
  have:∀xs:List Slt,fB f xs []=xs:=λxs=>by induction xs with
   |nil=>rfl
   |cons x xs g=>simp[fB,km,g]
  rw[this];rfl
 |c::w,s,hs,hw=>by obtain⟨r,p⟩:=b_.1 hw;have j:=(Ek hs c.1 c.2.1 (l:=[(f,c.2.2.1,())]) Ψ).1;rw[mz,Z?];have g:=FQ f w (de s c.1 c.2.1 [(f,c.2.2.1,())]) j p;rw[mz]at g;rw[g,←Hn f () c s.1 w hs r]
