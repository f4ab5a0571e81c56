/- The law ResolveRests by the contracts. -/
import Derived.Test.YthfdnklcgfkjoaaGreatDoorGenL
import Derived.Test.YthfdnklcgfkjoaaGreatDoorMrgA
import Derived.Deep.RegionHeld3
import Derived.Deep.QuietTactic
import Derived.BigQuiet
import Derived.RowKitTokens
set_option linter.all false
namespace Go.Proofs.YthfdnklcgfkjoaaGreatDoor.Abs
open Go Tryz
def Eu {l:List Cel}(h:ir l):l.Pairwise ig:=h
def Hu (l:List Cel)(U:l.length≤1000000)(P:ir l):∀(n:Nat) (r p:List Cel),l=p++r→r.length<n→Tot (wG n l p p.length) λq=>q=l
 |0,r,p,_,h=>Ω
 |n+1,r,p,e,h=>by
  show Tot (uC false some (wG n) l p p.length) _;have J:p.length+r.length=l.length:=by rw[e];simp
  simp only[uC,uD,tt,il];rw[ar (n:=(p.length:Int)+1) Ω Ω];cases r with
  |nil=>exact⟨λC=>by simp at C;simp at J;omega,λ_=>by rw[e];simp⟩
  |cons c r=>
   have T:ix aa l p.length=c:=by rw[e];exact bN (t:=aa) p c r
   simp at J h;have next:=Hu l U P n r (p++[c]) (by rw[e];simp) Ω
   have ep:((p++[c]).length:Int)=p.length+1:=by simp
   rw[ep]at next
   rw[T];refine⟨λ_=>⟨aE Ω Ω,au λg=>aE Ω (by simp at g;omega),λ_=>⟨eZ Ξ,next⟩,λf=>?_⟩,λC=>?_⟩
   ·exfalso;by_cases g:(p.length:Int)+1=l.length
    ·rw[dt g]at f;cases f
    ·rw[df g,S']at f;have R:=agc (Eu P) (i:=p.length) (j:=p.length+1) Ω Ω Ω;rw[T]at R;have hb:eqD ao (eG (ix aa l (p.length+1))) (eG c)=true:=by simpa using f
     exact IX R ((Gz _ _).1 hb)
   ·have:¬(p.length:Int)<l.length:=by simpa using C
    omega
def adR (l:List Cel)(g:l.length≤1000000)(f:ir l):Tot (uF l) λq=>q=l:=by simp[uF,ED,tt];exact⟨dt Ω,kE.2 ⟨by show l.length≤_;omega,Eu f⟩,Hu l g f FU l [] rfl (by rw[bt];omega)⟩
def If (t:ao.den):∀w:List Cel,w.drop (pre w t)=w.dropWhile λc=>ahd c.1 c.2.1 t.1 t.2.1
 |[]=>rfl
 |c::r=>by
  cases f:ahd c.1 c.2.1 t.1 t.2.1 with
  |true=>
   have e:pre (c::r) t=pre r t+1:=by simp[pre,O_,f]
   rw[e,List.drop_succ_cons,If t r,ase (p:=λc:Cel=>ahd c.1 c.2.1 t.1 t.2.1) f]
  |false=>
   have e:pre (c::r) t=0:=by simp[pre,O_,f]
   rw[e,A?,J_ (p:=λc:Cel=>ahd c.1 c.2.1 t.1 t.2.1) (by simp[f])]
def RY (x:Slt):∀{w:List Cel},ir w→(nG w (x.1,x.2.1,())).2.1=km x w
 |[],_=>rfl
 |c::r,h=>by
  obtain⟨T,R⟩:=b_.1 h;have f:=RY x R;have d1:=If (x.1,x.2.1,()) r;have d2:=If (x.1,x.2.1,()) (c::r);simp[nG]at f⊢;rw[d1]at f;rw[d2];simp only at f⊢;cases g:ahd c.1 c.2.1 x.1 x.2.1 with
  |true=>
   rw[ase (p:=λc:Cel=>ahd c.1 c.2.1 x.1 x.2.1) g,f,km,km,asY];have:(decide (c.1=x.1)&&decide (c.2.1=x.2.1))=false:=by
    have l:=IX g;by_cases C:c.1=x.1
    ·have:¬c.2.1=x.2.1:=λU=>l ⟨C.symm,U.symm⟩;simp[this]
    ·simp[C]
   rw[this];rfl
  |false=>
   rw[J_ (p:=λc:Cel=>ahd c.1 c.2.1 x.1 x.2.1) (by simp[g]),km,asY];show(decide (c.1=x.1)&&decide (c.2.1=x.2.1))=_;cases J:(decide (c.1=x.1)&&decide (c.2.1=x.2.1))with
   |true=>rfl
   |false=>
    symm;rw[Bool.false_or,J?];intro d P;have j:¬(c.1=x.1∧c.2.1=x.2.1):=by simpa using J
    have l:=ga (OM g j) (T d P);have:=IX l;simpa using this
def aoG (a b:ao.den):decide (f8 a b≤0) = !ahd b.1 b.2.1 a.1 a.2.1:=by
 cases h:ahd b.1 b.2.1 a.1 a.2.1 with
 |true=>
  apply df;rw[da]at h;unfold f8 eU qP
  repeat' split
  all_goals omega
 |false=>
  apply dt;rw[Wn]at h;unfold f8 eU qP
  repeat' split
  all_goals omega
def LZ (w:List Cel)(l:ir w)(hw:w.length≤200000)(s:Sta)(c:Com)(i:Nat)(x:Slt)(hi:i<s.1.length)(P:ix ae s.1 i=x)(hs:s.1.length≤200000)(J:x.2.2.1.length≤1000000)(F:Bool)(U:km x w=F)(f:eC Sta)(Q:Sta→Prop) :
  ∀(n:Nat) (r p:List Cel) (out:List Slt),w=p++r→r.length<n→out.length≤i+p.length→Tot (f w s c (out++(r.takeWhile (upto x)).map (wrS c.1)++(if F=true then[]else[x])) ((p++r.takeWhile (upto x)).length:Int) ((i:Int)+1)) Q→Tot (nQ f n w s i c (x.1,x.2.1,()) out p.length) Q
 |0,r,p,out,_,h,_,_=>Ω
 |n+1,r,p,out,e,h,hout,hk=>by
  show Tot (rc false some (nQ f n) f w s i c (x.1,x.2.1,()) out p.length) _;have R:p.length+r.length=w.length:=by rw[e];simp
  have hG:JB w (x.1,x.2.1,())=true:=kE.2 ⟨Ω,Eu l⟩;have j:r.takeWhile (upto x)=[]→(JB w (x.1,x.2.1,())=true∧(((!(nG w (x.1,x.2.1,())).2.1)=true→yF x.2.2.1=true∧lm (out.length+1)=true∧Tot (f w s c (out++[x]) p.length ((i:Int)+1)) Q)∧((!(nG w (x.1,x.2.1,())).2.1)=false→Tot (f w s c out p.length ((i:Int)+1)) Q))):=λht=>by
   rw[ht]at hk;simp at hk;rw[RY x l,U];refine⟨hG,λC=>⟨dt Ω,eZ Ω, ?_⟩,λC=>?_⟩
   ·have:F=false:=by simpa using C
    rw[this]at hk;simpa using hk
   ·have:F=true:=by simpa using C
    rw[this]at hk;simpa using hk
  simp only[rc,gT,tt,il,P];rw[ar (n:=(i:Int)+1) Ω Ω,ar (n:=(p.length:Int)+1) Ω Ω];refine⟨au λg=>aE Ω (by simpa using g), ?_⟩;cases r with
  |nil =>simp at R;have g:decide ((p.length:Int)<(w.length:Int))=false:=df Ω;rw[g];exact⟨λh=>(by cases h),λ_=>j rfl⟩
  |cons d r=>
   have ed:ix aa w p.length=d:=by rw[e];exact bN (t:=aa) p d r
   simp at R h;have g:decide ((p.length:Int)<(w.length:Int))=true:=dt Ω;rw[g,ed,ξ,aoG];have hu:(!ahd (x.1,x.2.1,()).1 (x.1,x.2.1,()).2.1 (eG d).1 (eG d).2.1)=upto x d:=rfl;rw[hu];cases T:upto x d with
   |true=>
    refine⟨λ_=>⟨aE Ω Ω,eZ Ξ, ?_⟩,λh=>by cases h⟩;have ep:((p++[d]).length:Int)=p.length+1:=by simp
    rw[←ep];refine LZ w l hw s c i x hi P hs J F U f Q n r (p++[d]) _ (by rw[e];simp) Ω Ξ ?_;rw[atr T]at hk;simpa[wrS,lW]using hk
   |false =>exact⟨λh=>(by cases h),λ_=>j (Q_ (by simp[T]))⟩
def IN (w:List Cel)(C:w.length≤200000)(c:Com)(f:Int)(r:List Cel)(j:(List.take w.length w).drop f.toNat=r):∀(n:Nat) (q p:List Cel) (out:List Slt),r=p++q→q.length<n→out.length≤1000000+p.length→r.length≤200000→Tot (kG n w f c out p.length) λz=>z=(out++q.map (wrS c.1),())
 |0,q,p,out,_,h,_,_=>Ω
 |n+1,q,p,out,e,h,hout,hl=>by
  show Tot (nT false some (kG n) w f c out p.length) _;have l:p.length+q.length=r.length:=by rw[e];simp
  simp only[nT,tt,il,j];rw[ar (n:=(p.length:Int)+1) Ω Ω];cases q with
  |nil=>exact⟨λg=>by simp at g;simp at l;omega,λ_=>by simp⟩
  |cons d q=>
   have P:ix aa r p.length=d:=by rw[e];exact bN (t:=aa) p d q
   simp at l h;have next:=IN w C c f r j n q (p++[d]) (out++[wrS c.1 d]) (by rw[e];simp) Ω Ξ hl
   have J:((p++[d]).length:Int)=p.length+1:=by simp
   rw[J]at next
   rw[P];refine⟨λ_=>⟨aE Ω Ω,eZ Ξ, ?_⟩,λg=>?_⟩
   ·simpa[wrS,lW]using next
   ·have:¬(p.length:Int)<r.length:=by simpa using g
    omega
def L0 (w:List Cel)(ho:ir w)(T:w.length≤200000)(s:Sta)(g:s.1.Pairwise dz)(hs:s.1.length≤200000)(C:∀x∈s.1,x.2.2.1.length≤1000000)(c:Com):∀(n:Nat) (f ps:List Slt) (r p:List Cel) (out:List Slt),s.1=ps++f→w=p++r→f.length<n→(∀d∈p,∀x∈f,ahd d.1 d.2.1 x.1 x.2.1=true)→out.length≤ps.length+p.length →
  Tot (nS n w s c out p.length ps.length) λq=>q=(out++fB c.1 f r,())
 |0,f,ps,r,p,out,_,_,h,_,_=>Ω
 |n+1,f,ps,r,p,out,es,ew,h,hp,hout=>by
  show Tot (re false some (nQ (nS n) FU) (kG FU) w s c out p.length ps.length) _;have hl:ps.length+f.length=s.1.length:=by rw[es];simp
  have hlw:p.length+r.length=w.length:=by rw[ew];simp
  simp only[re,tt,il];cases f with
  |nil=>
   simp at hl;refine⟨λhc=>by simp at hc;omega,λ_=>⟨by simp;omega, ?_⟩⟩;have er:(List.take w.length w).drop (p.length:Int).toNat=r:=by rw[X_,ew];simp
   exact IN w T c p.length r er FU r [] out rfl (by rw[bt];omega) Ω Ω
  |cons x f=>
   have ex:ix ae s.1 ps.length=x:=by rw[es];exact bN (t:=ae) ps x f
   simp at hl h;have P:x∈s.1:=by rw[es];simp
   refine⟨λ_=>⟨aE Ω Ω, ?_⟩,λhc=>?_⟩
   ·rw[ex];have J:=g;rw[es,j_]at J;obtain⟨R,hx2⟩:=b_.1 J.2.1;have eo:km x w=km x r:=by
     rw[ew,km,List.any_append];have:(p.any λc=>decide (c.1=x.1)&&decide (c.2.1=x.2.1))=false:=by
      rw[J?];intro d j;have h3:=IX (hp d j x Ψ);by_cases e1:d.1=x.1
      ·have:¬d.2.1=x.2.1:=λe2=>h3 ⟨e1.symm,e2.symm⟩;simp[this]
      ·simp[e1]
     rw[this];rfl
    refine LZ w ho T s c ps.length x Ω ex hs (C x P) (km x r) eo (nS n) _ FU r p out ew (by rw[bt];omega) hout ?_;have hsp:r=r.takeWhile (upto x)++r.dropWhile (upto x):=(atc ..).symm;have htl:(r.takeWhile (upto x)).length≤r.length:=(asA _).length_le;have next:=L0 w ho T s g hs C c n f (ps++[x]) (r.dropWhile (upto x)) (p++r.takeWhile (upto x)) (out++(r.takeWhile (upto x)).map (wrS c.1)++(if km x r=true then[]else[x])) (by rw[es];simp) (by rw[k_,←hsp,ew]) Ω (λd j y hy=>?_) (by
     have:(if km x r=true then([]:List Slt)else[x]).length≤1:=by split <;> simp
     simp;omega)
    ·have ep:((ps++[x]).length:Int)=ps.length+1:=by simp
     rw[ep]at next
     refine next.mono λq J=>?_
     rw[J,fB];simp
    ·obtain j|j:=Q'.1 j
     ·exact hp d j y (by simp[hy])
     ·have U:=pq _ _ d j;have l:=R y hy;have U:ahd x.1 x.2.1 d.1 d.2.1=false:=by simpa[upto]using U
      unfold dz at l;rw[da]at l⊢;rw[Wn]at U;omega
   ·have:¬(ps.length:Int)<s.1.length:=by simpa using hc
    omega
def abA (w:List Cel)(j:ir w)(l:w.length≤200000)(s:Sta)(f:s.1.Pairwise dz)(p:s.1.length≤200000)(g:∀x∈s.1,x.2.2.1.length≤1000000)(c:Com)(P:c.2.2.2.2.1=w):Tot (rf s c) λq=>q=(fB c.1 s.1 w,()):=by simp[rf,BH,tt,P];refine(adR w Ω j).mono λr C=>?_;rw[C];exact L0 w j l s f p g c FU s.1 [] w [] [] rfl rfl (by rw[bt];omega) (λd J=>by cases J) Ψ
structure Sd (s:Sta):Prop where
 asc:s.1.Pairwise dz
 len:s.1.length≤400000
 alts:∀x∈s.1,x.2.2.1≠[]∧x.2.2.1.length≤1000000
variable{s:Sta}{t:Ty}{w:World}{St:Sb}{v:Value}
def Sd.stg (h:Sd s):stG s=true:=by unfold stG yF;rw[ι];have:=h.len;refine⟨N_ Ω,d_.2 λx f=>?_⟩;have:=h.alts x f;rw[ι];refine⟨by cases g:x.2.2.1 with|nil=>exact absurd g this.1|cons _ _=>rfl,N_ Ω⟩
def Kf (f:Int):∀(w:List Cel) (s:Sta),s.1.Pairwise dz→(mz f s w).1.Pairwise dz∧(mz f s w).1.length≤s.1.length+w.length∧∀x∈(mz f s w).1,x∈s.1∨∃c,x=wrS f c
 |[],s,h=>⟨h,by simp[mz],λx g=>.inl g⟩
 |c::w,s,h=>by
  obtain⟨J,P,C⟩:=Ek h c.1 c.2.1 (l:=[(f,c.2.2.1,())]) Ψ;obtain⟨p,r,j⟩:=Kf f w _ J;rw[mz,Z?];rw[mz]at p r j;refine⟨p,by simp;omega,λx g=>?_⟩;obtain h|h:=j x g
  ·obtain h|h:=C x h
   ·exact .inl h.1
   ·exact .inr ⟨c,h⟩
  ·exact .inr h
def MG (f:Int)(w:List Cel)(h:Sd s)(p:s.1.length+w.length≤400000):Sd (mz f s w):=by
 obtain⟨l,r,j⟩:=Kf f w s h.asc;refine⟨l,Ω,λx g=>?_⟩;obtain h'|⟨c,rfl⟩:=j x g
 ·exact h.alts x h'
 ·simp[wrS]
def zh (a:Alt)(r:List Alt)(f:(a::r).length≤1000000):∀(n:Nat) (s p:List Alt),r=p++s→s.length<n→oA n (a::r) ((p.length:Int)+1)=some (s.any λb=>!eqD aW b.2.1 a.2.1)
 |0,s,p,_,h=>Ω
 |n+1,s,p,e,h=>by
  show ma false some (oA n) (a::r) ((p.length:Int)+1)=_;simp only[ma,s2,il];subst e;have C:ix aM (a::(p++s)) 0=a:=bN (t:=aM) [] a (p++s);simp at f;cases s with
  |nil =>have:decide (((p.length:Int)+1)<((a::(p++[])).length:Int))=false:=df Ψ;rw[this];rfl
  |cons b s=>
   simp at f h;have l:ix aM (a::(p++b::s)) ((p.length:Int)+1)=b:=by have g:=bN (t:=aM) (a::p) b s;rw[q_,List.cons_append]at g;exact g
   have next:=zh a (p++b::s) Ξ n s (p++[b]) Ψ Ω
   have j:w64 ((p.length:Int)+1+1)=((p++[b]).length:Int)+1:=by rw[ar Ω Ω];simp
   rw[C,l,j,next];have c1:decide (((p.length:Int)+1)<((a::(p++b::s)).length:Int))=true:=dt Ξ;rw[c1,aE Ω Ξ,aE Ω Ξ];simp[ck];cases eqD aW b.2.1 a.2.1 <;> rfl
def TJ (l:List Alt)(f:l.length≤1000000):mb l=some (gI l):=by
 simp[mb,vD];cases l with
 |nil=>rfl
 |cons a r=>exact zh a r f FU r [] rfl (by rw[bt];simp at f;omega)
def uZ (N:Nat):∀(n:Nat) (l:List Stg),l.length≤N→(gS n l).length≤l.length∧∀x∈gS n l,x.2.2.2.1=[]∧x.2.2.2.2.1.length≤N
 |0,l,_=>⟨by simp[gS],λx f=>by simp[gS]at f⟩
 |n+1,[],_=>⟨by simp[gS],λx f=>by simp[gS]at f⟩
 |n+1,y::r,h=>by
  rw[yN];simp at h;have p:(r.dropWhile λz=>eqD ao z.1 y.1).length≤r.length:=(atC _).length_le;have j:(r.takeWhile λz=>eqD ao z.1 y.1).length≤r.length:=(asA _).length_le;obtain⟨C,g⟩:=uZ N n (r.dropWhile λz=>eqD ao z.1 y.1) Ω;refine⟨?_,λx f=>?_⟩
  ·split
   ·simp;omega
   ·simp;omega
  ·obtain f|f:=Q'.1 f
   ·split at f
    ·cases f
    ·rw[F'.1 f];exact⟨rfl,by simp;omega⟩
   ·exact g x f
def Z7 (h:s.1.Pairwise dz):(bh s).1.Pairwise λx y=>ahd x.1 x.2.1 y.1 y.2.1=true:=by simp[bh];rw[asl];exact(h.sublist List.filter_sublist).imp λh=>h
def Zy (h:Sd s):(nV s).length≤800000∧∀x∈nV s,x.2.2.2.1.length≤1000000∧x.2.2.2.2.1.length≤1000000:=by
 have C:=qC s;have J:=h.len;have j:=B0 (bh s);obtain⟨P,l⟩:=uZ 400000 (dZ (bh s)).length (dZ (bh s)) Ω;have r:=x9 s;refine⟨by simp[nV];omega,λx f=>?_⟩;obtain f|f:=Q'.1 f
 ·simp only[dY,y_,m?]at f;obtain⟨y,⟨g,_⟩,rfl⟩:=f;exact⟨(h.alts y g).2,Ψ⟩
 ·obtain⟨p,R⟩:=l x f;exact⟨by rw[p];simp,Ω⟩
def Ky {s:Sta}(h:Sd s):∀(n:Nat) (r p:List Slt) (out:List Reg),s.1=p++r→r.length<n→out=dY (p,())→Tot (zR n s out p.length) λq=>q=nV s
 |0,r,p,out,_,h,_=>Ω
 |n+1,r,p,out,e,hn,eo=>by
  show Tot (zS false some (zR n) s out p.length) _;have hl:=h.len;have J:out.length≤p.length:=by rw[eo];exact x9 (p,())
  have g:p.length+r.length=s.1.length:=by rw[e];simp
  simp only[zS,zT,tt,il];rw[ar (n:=(p.length:Int)+1) Ω Ω];cases r with
  |nil=>
   have es:s=(p,()):=by obtain⟨a,u⟩:=s;simp at e;rw[e]
   have R:=qC s;have P:=B0 (bh s);have l:=aa4 (Z7 h.asc);have T:(jI (bh s)).length≤400000:=by rw[←l];have:=(uZ 400000 (dZ (bh s)).length (dZ (bh s)) Ω).1;omega
   refine⟨λC=>by simp at C;simp at g;omega,λ_=>⟨h.stg,dt Ω,eZ Ω, ?_⟩⟩;rw[nV,l,eo,←es]
  |cons c r=>
   have C:c∈s.1:=by rw[e];simp
   have ec:ix ae s.1 (p.length:Int)=c:=by rw[e];exact bN (t:=ae) p c r
   have next:=Ky h n r (p++[c]) (dY (p++[c],())) (by rw[e];simp) (by simp at hn;omega) rfl
   have f:dY (p++[c],())=dY (p,())++(if gI c.2.2.1 then[(1,c.1,c.2.1,c.2.2.1,[],())]else[]):=by cases j:gI c.2.2.1 <;> simp[dY,j]
   rw[ec];simp at g;have U:=(h.alts c C).2;have ep:((p++[c]).length:Int)=(p.length:Int)+1:=by simp
   rw[ep]at next
   refine⟨λ_=>⟨aE Ω Ω,_,TJ _ Ω,λj=>⟨eZ Ξ, ?_⟩,λj=>?_⟩,λC=>?_⟩
   ·rw[f,j,←eo]at next;exact next
   ·rw[f,j,←eo]at next;simpa using next
   ·have:¬(p.length:Int)<s.1.length:=by simpa using C
    omega
def ahu (h:Sd s):Tot (zU s) λq=>q=nV s:=by simp[zU,M1];have:=h.len;exact Ky h FU s.1 [] [] rfl (by rw[bt];omega) rfl
def F5 (w:List Cel)(P:w.length≤200000):∀(n:Nat) (r p:List Cel) (b:List Slt),w=p++r→r.length<n→Sd (b,())→b.length+r.length≤400000→Tot (v7 n w p.length b) λq=>q=nV (mz 1048577 (b,()) r)
 |0,r,p,b,_,h,_,_=>Ω
 |n+1,r,p,b,e,h,g,hl=>by
  show Tot (tU false some (v7 n) w p.length b) _;have J:p.length+r.length=w.length:=by rw[e];simp
  simp only[tU,tt,il];rw[ar (n:=(p.length:Int)+1) Ω Ω];cases r with
  |nil=>exact⟨λC=>by simp at C;simp at J;omega,λ_=>ahu g⟩
  |cons c r=>
   have T:ix aa w p.length=c:=by rw[e];exact bN (t:=aa) p c r
   simp at J h hl;have j:Sd (de (b,()) c.1 c.2.1 [(1048577,c.2.2.1,())]):=MG 1048577 [c] g Ξ;have f:=(Ek g.asc c.1 c.2.1 (l:=[(1048577,c.2.2.1,())]) Ψ).2.1;have next:=F5 w P n r (p++[c]) (de (b,()) c.1 c.2.1 [(1048577,c.2.2.1,())]).1 (by rw[e];simp) Ω j (by simp only at f;omega)
   have R:((p++[c]).length:Int)=p.length+1:=by simp
   rw[R]at next
   rw[T];refine⟨λ_=>⟨aE Ω Ω,aE Ω Ω,aE Ω Ω, ?_,next⟩,λC=>?_⟩
   ·show cj _ _ _=true;unfold cj agd;rw[ι];have:=g.len;exact⟨dt Ω,dt g.asc⟩
   ·have:¬(p.length:Int)<w.length:=by simpa using C
    omega
def acX (w:List Cel)(f:w.length≤200000)(h:Sd s)(g:s.1.length≤200000):Tot (jZ s w) λq=>q=nV (mz 1048577 s w):=by simp[jZ,Eo,tt];exact F5 w f FU w [] s.1 rfl (by rw[bt];omega) h Ω
def acY (w:List Cel)(f:ir w)(j:w.length≤200000)(h:Sd s)(p:s.1.length≤200000):Tot (j4 s w) λq=>q=nV (mz 1048577 s w):=by
 simp[j4,Ep,tt];refine(abA w f j s h.asc p (λx g=>(h.alts x g).2) (1048577,[],[],[],w,()) rfl).mono λr l=>?_;have e:r=mz 1048577 s w:=by rw[l];show(fB 1048577 s.1 w,())=mz 1048577 s w;rw[←FQ 1048577 w s h.asc (Eu f)]
 rw[e];exact⟨(MG 1048577 w h Ω).stg,rfl⟩
def FY (l:List Alt)(g:l.length≤1000000):∀(n:Nat) (i:Int),0≤i→(l.length-i).toNat<n→vW n l l i=some true
 |0,i,_,h=>Ω
 |n+1,i,h0,h=>by
  show tM false some (vW n) l l i=_;simp[tM,s2,il];by_cases f:i<(l.length:Int)
  ·rw[ar Ω Ω,FY l g n (i+1) Ω Ω,dt f,aE h0 f,uT aM _ rfl];rfl
  ·rw[df f];rfl
def P8 (l:List Alt)(f:l.length≤1000000):qm l l=some true:=by simp only[qm,El];rw[FY l f FU 0 Ω (by rw[bt];omega)];simp
def Kg (R:List Reg)(C:R.length≤1000000)(i:Int)(j:0≤i)(g:i<R.length)(r:(ix ac R i).2.2.2.2.1.length≤1000000)(k:fw Bool)(Q:Bool→Prop)(l:Tot (k R R (i+1)) Q):∀(n:Nat) (t:Int),0≤t→((ix ac R i).2.2.2.2.1.length-t).toNat<n→Tot (mC k n R R i t) Q
 |0,t,_,h=>Ω
 |n+1,t,p,h=>by
  show Tot (qj false some (mC k n) k R R i t) _;simp only[qj,tt,il];rw[ar (n:=i+1) Ω Ω];refine⟨aE j g,λf=>?_,λ_=>l⟩;have f:t<((ix ac R i).2.2.2.2.1.length:Int):=by simpa using f
  rw[ar (n:=t+1) Ω Ω];exact⟨aE j g,aE p f,aE j g,aE p f,λh=>by simp at h,λ_=>Kg R C i j g r k Q l n (t+1) Ω Ω⟩
def Kh (R:List Reg)(j:R.length≤1000000)(h:∀x∈R,x.2.2.2.1.length≤1000000∧x.2.2.2.2.1.length≤1000000):∀(n:Nat) (i:Int),0≤i→(R.length-i).toNat<n→Tot (mE n R R i) λb=>b=true
 |0,i,_,h=>Ω
 |n+1,i,h0,hn=>by
  show Tot (lE false some (mC (mE n) FU) R R i) _;by_cases f:i<(R.length:Int)
  ·have g:=h _ (ji (t:=ac) h0 f);have r:Um (ix ac R i).2.2.2.1 (ix ac R i).2.2.2.1=true:=by unfold Um;rw[P8 _ g.1];rfl
   have p:yn (ix ac R i).2.2.2.1 (ix ac R i).2.2.2.1=true:=by unfold yn;rw[P8 _ g.1];rfl
   have next:=Kg R j i h0 f g.2 (mE n) (λb=>b=true) (Kh R j h n (i+1) Ω Ω) FU 0 Ω (by rw[bt];omega)
   have l:=aE h0 f;simp only[lE,tt,il,r,p,l,EJ,w_,u_,m_,ξ,S',Bool.or_true,t_,dt f];simpa using next
  ·simp only[lE,tt,il,df f];simp
def Zi (R:List Reg)(f:R.length≤1000000)(h:∀x∈R,x.2.2.2.1.length≤1000000∧x.2.2.2.2.1.length≤1000000):Tot (gX R R) λb=>b=true:=by simp only[gX,zI,tt,il];exact⟨λh=>by simp at h,λ_=>Kh R f h FU 0 Ω (by rw[bt];omega)⟩
def acW (first:Int)(l:List bm.den)(d:bm.den):∃h s w R,dT first l=some h∧vd h=some s∧dX s d 4194304=some w∧j4 s w=some R∧jZ s w=some R∧gX R R=some true:=by
 obtain⟨h,e1,p⟩:=NR first l
 obtain⟨s,e2,P⟩:=ak0 h p.h0;have f:=P.st1 p.h0;have j:s.1.length≤120000:=by have J:=p.sum;have hb:bnd 9=108021:=rfl;obtain⟨_,_,_,_,h⟩:=P;have:=h.len;omega
 obtain⟨w,e3,hw,T⟩:=C3 f j d 4194304;have hwl:=Ni hw T;have g:Sd s:=⟨f.asc,Ω,λx C=>⟨(f.alts x C).1,c? (f.alts x C).2⟩⟩;obtain⟨R,e4,hR⟩:=acY w T Ω g Ω;obtain⟨R',e5,r⟩:=acX w Ω g Ω;have U:=Zy (MG 1048577 w g Ω);rw[←hR]at U;obtain⟨b,e6,hb⟩:=Zi R Ω U.2;exact⟨h,s,w,R,e1,e2,e3,e4,by rw[e5,r,hR],by rw[e6,hb]⟩
open Go Go.RowKit Tryz
def xa {f:FuncId}{l:List ((t:Ty)×t.den)}{x:t.den}(h:MeetsD prog f l (.val t x))(j:∀b o,St b o→b<w.heap.size){vs:List Value}(C:RepVs w St l vs) :
  Calls prog f vs.toArray w λe g=>∃v St',e = .returned v∧Below w.heap.size w g∧St.le St'∧(∀b o,St' b o→b<g.heap.size)∧RepV g St' t x v:=by
 refine(h.2 w St j vs C).mono ?_;rintro e g ⟨v,St',rfl,b,_,r,J,_,T,P,p⟩;cases P;exact⟨_,St',rfl,b,r,λR o q=>(J R o q).elim (λq=>J' (j _ _ q) b.size) (·.2),p⟩
def mM {f :World}{St' :Sb}(j:St.le St')(r:∀b o,St b o→b<w.heap.size)(g:Below w.heap.size w f){x:t.den}(h:RepV w St t x v):RepV f St' t x v :=
 h.mono j λa v q C l=>by have:=g.cell (p:=a) (r _ _ q);rw[this];exact l
def ZM {l:List t.den}(h:RepV w St (.cons (.slice t) .unit) (l,()) v):∃A n c,v = .agg #[.slice A n c]:=by unfold RepV at h;obtain⟨f,rfl,r1,r2,rfl,h,rfl⟩:=h;obtain⟨A,c,rfl,_,_⟩:=dI h;exact⟨_,_,_,rfl⟩
def mi (w:World)(o:Obj):(w.alloc o).heap.size=w.heap.size+1:=by show(w.heap.push o).size=_;simp
def yD {g o:Nat}(h:w.cell? ⟨g,o,none⟩=some v):g<w.heap.size:=by
 obtain q|q:=T' g w.heap.size
 ·exact q
 ·simp[World.cell?,arV q]at h
abbrev J0:Ty :=.cons (.int .i64) (.cons (.int .i64) (.cons (.int .i64) (.cons (.int .i64) .unit)))
def VD {d:J0.den}(h:RepV w St J0 d v):v = .agg #[.int .i64 d.1,.int .i64 d.2.1,.int .i64 d.2.2.1,.int .i64 d.2.2.2.1]:=by unfold RepV at h;obtain⟨cs,rfl,c1,r1,rfl,⟨rfl,_⟩,c2,r2,rfl,⟨rfl,_⟩,c3,r3,rfl,⟨rfl,_⟩,c4,r4,rfl,⟨rfl,_⟩,rfl⟩:=h;rfl
set_option maxHeartbeats 4000000 in
set_option maxRecDepth 1000000 in
def rests_walk {tL tH U tR:Ty}{F:World→Prop}(hF:∀w C,F w→Below w.heap.size w C→F C)(aw:∀w,F w→Calls prog 10 #[] w λe C=>e = .returned (.bool true)∧Below w.heap.size w C)
  {first:Int} {l:(Ty.slice tL).den} {d:J0.den} {h:tH.den} {s:(Ty.cons (.slice U) .unit).den} {ws:tR.den} {tG:Ty} {R:tG.den}
  (c5:MeetsD prog 5 [⟨.int .i64,first⟩,⟨.slice tL,l⟩] (.val tH h)) (c4:MeetsD prog 4 [⟨tH,h⟩] (.val (.cons (.slice U) .unit) s)) (c6:MeetsD prog 6 [⟨.cons (.slice U) .unit,s⟩,⟨J0,d⟩,⟨.int .i64,4194304⟩] (.val tR ws))
  (c8:MeetsD prog 8 [⟨.cons (.slice U) .unit,s⟩,⟨tR,ws⟩] (.val tG R)) (c9:MeetsD prog 9 [⟨.cons (.slice U) .unit,s⟩,⟨tR,ws⟩] (.val tG R)) (c7:MeetsD prog 7 [⟨tG,R⟩,⟨tG,R⟩] (.val .bool true))
  {w:World} {St:Sb} (hb:∀b o,St b o→b<w.heap.size) {vs:List Value} (hr:RepVs w St [⟨.int .i64,first⟩,⟨.slice tL,l⟩,⟨J0,d⟩] vs) (hf:F w) :
  Calls prog 3 vs.toArray w λe C=>e = .returned (.bool true)∧Below w.heap.size w C:=by
 match vs,hr with
 |[v0,v1,v2],⟨r0,r1,r2,_⟩=>
 obtain rfl:=cI r0;obtain rfl:=VD r2;show Calls prog 3 #[.int .i64 first,v1,_] w _;have G1:Hid (Below w.heap.size w (w.alloc (.cells #[.int .i64 d.1,.int .i64 d.2.1,.int .i64 d.2.2.1,.int .i64 d.2.2.2.1] 24))):=(Below.refl _ _).alloc (δ _) _
 go_enter func3,ntmps3
 go_wp2_with (go_at_call 5;refine(xa (St:=St) (vs:=[.int .i64 first,v1]) c5 ?b1 ?r1).mono ?_)
 case b1=>intro b o q;have:=hb b o q;omega
 case r1=>exact⟨yt _ _ _ _,mM (Sb.le.refl _) hb G1.out r1,awN⟩
 rintro e w2 v5 rfl b2 St1 s1 n1 rh;have b2:Below (w.alloc (.cells #[.int .i64 d.1,.int .i64 d.2.1,.int .i64 d.2.2.1,.int .i64 d.2.2.2.1] 24)).heap.size (w.alloc (.cells #[.int .i64 d.1,.int .i64 d.2.1,.int .i64 d.2.2.1,.int .i64 d.2.2.2.1] 24)) w2:=by rw[mi];exact b2
 have G2:Hid (Below w.heap.size w w2):=G1.out.trans (b2.mono (by rw[mi];exact j? _));have K2:Hid (w2.heap[w.heap.size]? = some (.cells #[.int .i64 d.1,.int .i64 d.2.1,.int .i64 d.2.2.1,.int .i64 d.2.2.2.1] 24)):=(b2.block _ (by rw[mi (w:=w)];exact atf _)).trans (by show(w.heap.push _)[w.heap.size]? = _;rw[Array.getElem?_push_size]);have B2:Hid (w.heap.size+1≤w2.heap.size):=by have:=b2.size;rw[mi]at this;exact this
 have S1:Hid (St.le St1):=s1;have R2:Hid (RepV w2 St1 tH h v5):=rh;clear b2 s1 rh
 go_wp2_with (go_at_call 4;refine(xa (St:=St1) (vs:=[v5]) c4 n1 ⟨R2.out,awN⟩).mono ?_)
 rintro e f ⟨v4,P,rfl,b3,s2,n2,rs⟩;obtain⟨A,j,r,rfl⟩:=ZM rs;have G3:Hid (Below w.heap.size w f):=G2.out.trans (b3.mono G2.out.size);have K3:Hid (f.heap[w.heap.size]? = some (.cells #[.int .i64 d.1,.int .i64 d.2.1,.int .i64 d.2.2.1,.int .i64 d.2.2.2.1] 24)):=(b3.block _ B2.out).trans K2.out;have B3:Hid (w.heap.size+1≤f.heap.size):=υ B2.out b3.size;have S2:Hid (St.le P):=S1.out.trans s2;have R3:Hid (RepV f P _ s (.agg #[.slice A j r])):=rs;clear b3 s2 rs n1 R2 S1 G2 K2 B2 G1;have g4:Hid (Below f.heap.size f (f.alloc (.cells #[.slice A j r] 27))):=(Below.refl _ _).alloc (δ _) _;have G4:Hid (Below w.heap.size w (f.alloc (.cells #[.slice A j r] 27))):=G3.out.trans (g4.out.mono G3.out.size);have K4:Hid ((f.alloc (.cells #[.slice A j r] 27)).heap[w.heap.size]? = some (.cells #[.int .i64 d.1,.int .i64 d.2.1,.int .i64 d.2.2.1,.int .i64 d.2.2.2.1] 24)):=(g4.out.block _ B3.out).trans K3.out;have d0:(f.alloc (.cells #[.slice A j r] 27)).cell? ⟨w.heap.size,0,none⟩=some (.int .i64 d.1):=by simp only[World.cell?,K4.out];rfl
 have d1:(f.alloc (.cells #[.slice A j r] 27)).cell? ⟨w.heap.size,1,none⟩=some (.int .i64 d.2.1):=by simp only[World.cell?,K4.out];rfl
 have d2:(f.alloc (.cells #[.slice A j r] 27)).cell? ⟨w.heap.size,2,none⟩=some (.int .i64 d.2.2.1):=by simp only[World.cell?,K4.out];rfl
 have d3:(f.alloc (.cells #[.slice A j r] 27)).cell? ⟨w.heap.size,3,none⟩=some (.int .i64 d.2.2.2.1):=by simp only[World.cell?,K4.out];rfl
 have N4:Hid (∀b o,P.s b o→b<(f.alloc (.cells #[.slice A j r] 27)).heap.size):=λb o q=>by rw[mi];exact Nat.lt_succ_of_lt (n2 b o q)
 have R4:Hid (RepVs (f.alloc (.cells #[.slice A j r] 27)) P [⟨.cons (.slice U) .unit,s⟩,⟨J0,d⟩,⟨.int .i64,4194304⟩] [.agg #[.slice A j r],.agg #[.int .i64 d.1,.int .i64 d.2.1,.int .i64 d.2.2.1,.int .i64 d.2.2.2.1],.int .i64 4194304]) :=
  ⟨mM (Sb.le.refl _) n2 g4.out R3.out,mM S2.out hb G4.out r2,yt _ _ _ _,awN⟩
 have Rs:Hid (RepV (f.alloc (.cells #[.slice A j r] 27)) P (.cons (.slice U) .unit) s (.agg #[.slice A j r])):=R4.out.1
 go_wp2_with (go_at_call 6;refine(xa (St:=P) (vs:=[.agg #[.slice A j r],.agg #[.int .i64 d.1,.int .i64 d.2.1,.int .i64 d.2.2.1,.int .i64 d.2.2.2.1],.int .i64 4194304]) c6 N4.out R4.out).mono ?_)
 rintro e T ⟨v6,J,rfl,b5,s3,n3,rw6⟩;have G5:Hid (Below w.heap.size w T):=G4.out.trans (b5.mono G4.out.size);have S3:Hid (St.le J):=S2.out.trans s3;have C5:Hid (T.cell? ⟨f.heap.size,0,none⟩=some (.slice A j r)):=(b5.cell (p:=⟨f.heap.size,0,none⟩) (by rw[mi];exact atf _)).trans Ψ;have L5:Hid (f.heap.size<T.heap.size):=by have:=b5.size;rw[mi]at this;exact this
 have N5:Hid (∀b o,J.s b o→b<T.heap.size):=n3;have Q5:Hid (RepV T J tR ws v6):=rw6;have P5:Hid (RepV T J (.cons (.slice U) .unit) s (.agg #[.slice A j r])):=mM s3 N4.out b5 Rs.out;clear b5 s3 n3 rw6 Rs R4 N4 d0 d1 d2 d3 K4 G4 g4 K3 G3 B3 S2 R3 n2
 go_wp2
 have H5:Hid (∀C,Below T.heap.size T C→(∀b o,J.s b o→b<C.heap.size)∧RepVs C J [⟨.cons (.slice U) .unit,s⟩,⟨tR,ws⟩] [.agg #[.slice A j r],v6]) :=
  λC g=>⟨λb o q=>J' (N5.out b o q) g.size,mM (Sb.le.refl _) N5.out g P5.out,mM (Sb.le.refl _) N5.out g Q5.out,awN⟩
 clear N5 P5 Q5
 go_region_held3 (λC=>C.cell? ⟨f.heap.size,0,none⟩=some (.slice A j r)) (first|exact C9.out|exact C8.out|exact C7.out|exact C6.out|exact C5.out)
  (first
   |(go_at_call 8
     refine(xa (St:=J) (vs:=[.agg #[.slice A j r],v6]) c8 (H5.out _ (Below.refl _ _).drew).1 (H5.out _ (Below.refl _ _).drew).2).mono ?_;rintro e w6 ⟨v8,St4,rfl,b6,s4,n4,r8⟩;have e6:Below T.heap.size T w6:=(Below.refl _ _).drew.trans b6;have G6:Hid (Below w.heap.size w w6):=G5.out.trans (e6.mono G5.out.size);have C6:Hid (w6.cell? ⟨f.heap.size,0,none⟩=some (.slice A j r)):=(e6.cell (p:=⟨f.heap.size,0,none⟩) L5.out).trans C5.out;have H6:Hid (∀C,Below w6.heap.size w6 C→(∀b o,St4.s b o→b<C.heap.size)∧RepVs C St4 [⟨.cons (.slice U) .unit,s⟩,⟨tR,ws⟩] [.agg #[.slice A j r],v6]∧RepV C St4 tG R v8):=λC g=>
      ⟨λb o q=>J' (n4 b o q) g.size,⟨mM s4 (H5.out _ (Below.refl _ _)).1 (e6.trans (g.mono e6.size)) (H5.out _ (Below.refl _ _)).2.1,mM s4 (H5.out _ (Below.refl _ _)).1 (e6.trans (g.mono e6.size)) (H5.out _ (Below.refl _ _)).2.2.1,awN⟩,mM (Sb.le.refl _) n4 g r8⟩
     clear b6 s4 n4 r8 e6)
   |(go_at_call 9
     refine(xa (St:=St4) (vs:=[.agg #[.slice A j r],v6]) c9 (H6.out _ (Below.refl _ _)).1 (H6.out _ (Below.refl _ _)).2.1).mono ?_;rintro e w7 ⟨v9,St5,rfl,b7,s5,n5,r9⟩;have e7:Below w6.heap.size w6 w7:=b7;have G7:Hid (Below w.heap.size w w7):=G6.out.trans (e7.mono G6.out.size);have C7:Hid (w7.cell? ⟨f.heap.size,0,none⟩=some (.slice A j r)):=(e7.cell (p:=⟨f.heap.size,0,none⟩) (yD C6.out)).trans C6.out;have H7:Hid (∀C,Below w7.heap.size w7 C→(∀b o,St5.s b o→b<C.heap.size)∧RepVs C St5 [⟨tG,R⟩,⟨tG,R⟩] [v8,v9]):=λC g=>
      ⟨λb o q=>J' (n5 b o q) g.size,mM s5 (H6.out _ (Below.refl _ _)).1 (e7.trans (g.mono e7.size)) (H6.out _ (Below.refl _ _)).2.2,mM (Sb.le.refl _) n5 g r9,awN⟩
     clear b7 s5 n5 r9 e7)
   |(go_at_call 7
     refine(xa (St:=St5) (vs:=[v8,v9]) c7 (H7.out _ (Below.refl _ _)).1 (H7.out _ (Below.refl _ _)).2).mono ?_;rintro e w8 ⟨v10,St6,rfl,b8,s6,n6,r10⟩;obtain rfl:=gq r10;have e8:Below w7.heap.size w7 w8:=b8;have G8:Hid (Below w.heap.size w w8):=G7.out.trans (e8.mono G7.out.size);have C8:Hid (w8.cell? ⟨f.heap.size,0,none⟩=some (.slice A j r)):=(e8.cell (p:=⟨f.heap.size,0,none⟩) (yD C7.out)).trans C7.out;clear b8 s6 n6 r10 e8)
   |(go_at_call 10
     refine(aw _ (hF _ _ hf G8.out)).mono ?_;rintro e w9 ⟨rfl,b9⟩;have G9:Hid (Below w.heap.size w w9):=G8.out.trans (b9.mono G8.out.size);have C9:Hid (w9.cell? ⟨f.heap.size,0,none⟩=some (.slice A j r)):=(b9.cell (p:=⟨f.heap.size,0,none⟩) (yD C8.out)).trans C8.out;clear b9))
 go_wp2
 go_ret
 exact⟨rfl,G9.out⟩
open Go Go.RowKit Tryz
def hist_m (first:Int)(l:List bm.den){h}(e:dT first l=some h):MeetsD prog 5 [⟨tInt,first⟩,⟨.slice bm,l⟩] (.val (.slice tCommit) h) :=
 meets_of_ent Vu (by show some ((dT first l).isSome,dL ((dT first l).getD _))=_;rw[e];rfl)
def at_m {h:List tCommit.den}{s}(e:vd h=some s):MeetsD prog 4 [⟨.slice tCommit,h⟩] (.val ag s) :=
 meets_of_ent aoN (by show some ((vd h).isSome,aR ((vd h).getD _))=_;rw[e];rfl)
def writes_m {s:ag.den}{d:bm.den}{n:Int}{w}(e:dX s d n=some w):MeetsD prog 6 [⟨ag,s⟩,⟨bm,d⟩,⟨tInt,n⟩] (.val (.slice aa) w) :=
 meets_of_ent JI (by show some ((dX s d n).isSome,bG ((dX s d n).getD _))=_;rw[e];rfl)
def restR_m {s:ag.den}{w:List aa.den}{R}(e:j4 s w=some R):MeetsD prog 8 [⟨ag,s⟩,⟨.slice aa,w⟩] (.val (.slice ac) R) :=
 meets_of_ent ahf (by show some ((j4 s w).isSome,d8 ((j4 s w).getD _))=_;rw[e];rfl)
def restX_m {s:ag.den}{w:List aa.den}{R}(e:jZ s w=some R):MeetsD prog 9 [⟨ag,s⟩,⟨.slice aa,w⟩] (.val (.slice ac) R) :=
 meets_of_ent ahb (by show some ((jZ s w).isSome,d8 ((jZ s w).getD _))=_;rw[e];rfl)
def same_m {a b:List ac.den}{r:Bool}(e:gX a b=some r):MeetsD prog 7 [⟨.slice ac,a⟩,⟨.slice ac,b⟩] (.val .bool r) :=
 meets_of_ent acM (by show some ((gX a b).isSome,af ((gX a b).getD _))=_;rw[e];rfl)
