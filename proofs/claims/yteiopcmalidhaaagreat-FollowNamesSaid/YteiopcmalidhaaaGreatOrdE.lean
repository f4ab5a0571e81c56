/- graph. -/
import Derived.Test.YteiopcmalidhaaaGreatOrdD
set_option linter.all false
namespace Go.Proofs.YteiopcmalidhaaaGreat
namespace Abs
open Go Go.Proofs Go.RowKit Tryz
abbrev zj (c:Ty):Ty :=.cons (.int .i64) (.cons (.slice (.int .i64)) (.cons (.slice (.int .i64)) (.cons .str (.cons (.slice c) .unit))))
variable{c:Ty}{w:World}{St:Sb}{cs:List Value}
def fW (x:(zj c).den):CK:=(x.1,x.2.1)
theorem XG {x:Int}(h:Rep w St (toD (.int .i64) x) cs):cs=[.int .i64 x]:=h.1
theorem XF (P:∀b o,St b o→b<w.heap.size){l:List Int}{v:Value}(h:Rep w St (toD (.slice (.int .i64)) l) [v]):∃A c,v = .slice A l.length c∧l.length≤c∧(0<l.length→∃p T,A=some ⟨p,T,none⟩∧p<w.heap.size∧∀j (h:j<l.length),w.cell? ⟨p,T+j,none⟩=some (.int .i64 l[j])):=by
 obtain⟨A,c,e0,hc,hh⟩:=dw h;cases e0;refine⟨A,c,rfl,hc,λhpos=>?_⟩;obtain h|⟨ad,ds,rfl,J,U,f⟩:=hh
 ·have h:l.length=0:=h;omega
 ·obtain⟨b,r,sp⟩:=ad;have J:sp=none:=J;subst J;have hl:ds.length=l.length*1:=bh U;refine⟨b,r,rfl,(P _ _ (f 0 _ (δ Ω)).2),λj hj=>?_⟩;have R:=XG (pT U j hj);have g:j<ds.length:=Ω
  obtain⟨h1,_⟩:=f j _ (δ g);rw[cN]at h1;rw[h1];have C:Ty.size (.int .i64)=1:=rfl;rw[C,aj1,List.take_one,List.head?_drop,δ g]at R;simp at R;rw[R]
theorem aby (l:∀b o,St b o→b<w.heap.size){x:(zj c).den}(h:Rep w St (toD (zj c) x) cs) :
  ∃A f A2 P m2 s3 A4 C T,cs=[.int .i64 x.1,.slice A x.2.1.length f,.slice A2 P m2,.string s3,.slice A4 C T]∧(0<x.2.1.length→∃g p,A=some ⟨g,p,none⟩∧g<w.heap.size∧∀j (h:j<x.2.1.length),w.cell? ⟨g,p+j,none⟩=some (.int .i64 x.2.1[j])):=by
 obtain⟨c1,r1,rfl,⟨rfl,_⟩,c2,r2,rfl,h2,c3,r3,rfl,h3,c4,r4,rfl,⟨rfl,_⟩,c5,r5,rfl,h5,rfl⟩:=h;obtain⟨v2,rfl⟩:∃v,c2=[v]:=by obtain⟨A,n,c,e,_⟩:=h2;exact⟨_,e⟩
 obtain⟨A,f,rfl,_,U⟩:=XF l h2;obtain⟨A3,J,m3,rfl,_⟩:=h3;obtain⟨A5,r,R,rfl,_⟩:=h5;exact⟨A,f,A3,J,m3,_,A5,r,R,rfl,U⟩
theorem comms_of (J:∀b o,St b o→b<w.heap.size){l:List (zj c).den}{va:Value}(h:RepV w St (.slice (zj c)) l va) :
  ∃A cap,va = .slice A l.length cap∧l.length≤cap∧ael w w.heap.size A (l.map fW):=by
 unfold RepV at h;rw[B' (by simp[Ty.isStruct])]at h;obtain⟨A,cap,e0,hc,hh⟩:=dw h;cases e0;refine⟨A,cap,rfl,hc,λp=>?_⟩;rw[o_]at p;obtain h|⟨ad,ds,rfl,hs,hr,g⟩:=hh
 ·have h:l.length=0:=h;omega
 ·obtain⟨b,j,sp⟩:=ad;have hs:sp=none:=hs;subst hs;have hsz:(zj c).size=5:=rfl;have hl:ds.length=l.length*5:=bh hr;refine⟨b,j,rfl,(J _ _ (g 0 _ (δ Ω)).2),λk hk=>?_⟩;rw[o_]at hk;obtain⟨PA,P,A2,T,m2,s3,A4,R,U,e5,hp⟩:=aby J (pT hr k hk);rw[hsz]at e5;have cell:∀f (_:f<5),w.cell? ⟨b,j+k*5+f,none⟩=([.int .i64 l[k].1,.slice PA l[k].2.1.length P,.slice A2 T m2,.string s3,.slice A4 R U]:List Value)[f]?:=λf hf=>by
   have C:ds[k*5+f]? = ([.int .i64 l[k].1,.slice PA l[k].2.1.length P,.slice A2 T m2,.string s3,.slice A4 R U]:List Value)[f]?:=by rw[←e5,K',β hf,b_]
   have r:k*5+f<ds.length:=Ω
   obtain⟨h1,h2⟩:=g (k*5+f) _ (δ r);rw[←C,δ r,←h1,cN,O_]
  rw[List.getElem_map];exact⟨PA,P,A2,T,m2,s3,A4,R,U,cell 0 Ϛ,cell 1 Ϛ,cell 2 Ϛ,cell 3 Ϛ,cell 4 Ϛ,hp⟩
theorem order_call:bE prog 34:=⟨_,func34,rfl,Φ⟩
theorem Jw {w:World}{St:Sb}:∀l:List Int,Rep w St (chain (toD (.int .i64)) l) (intsI l)
 |[]=>rfl
 |i::l=>⟨[.int .i64 i],_,rfl,⟨rfl,rfl⟩,Jw l⟩
theorem Ye (l:List (zj c).den)(h:GoodK (l.map fW)):MeetsD prog 34 [⟨.slice (zj c),l⟩] (.val (.slice (.int .i64)) (wH (l.map fW))):=by
 refine⟨order_call,λw St C J f=>?_⟩;obtain⟨g,rfl,j⟩:∃g,J=[g]∧RepV w St (.slice (zj c)) l g:=by
  cases J with
  |nil=>exact f.elim
  |cons g r=>
   cases r with
   |nil=>exact⟨g,rfl,f.1⟩
   |cons _ _=>exact f.2.elim
 obtain⟨A,cap,rfl,U,p⟩:=comms_of C j;have P:(l.map fW).length=l.length:=o_ ..;have:=order_walk (l.map fW) h w A cap (by rw[P];exact U) p;rw[P]at this;refine this.mono ?_;rintro e w' ⟨v,rfl,hb,T,R⟩;exact DF (τ :=.int .i64) hb T (xs:=intsI (wH (l.map fW))) R (Jw _)
