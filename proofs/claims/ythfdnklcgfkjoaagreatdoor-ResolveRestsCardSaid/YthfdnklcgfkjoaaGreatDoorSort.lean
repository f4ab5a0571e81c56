/- slices. -/
import Derived.Test.YthfdnklcgfkjoaaGreatDoorAbsX
import Derived.Shelf.SlSortCmp.InsertionK
set_option linter.all false
namespace Go.Proofs.YthfdnklcgfkjoaaGreatDoor.Abs
open Go Go.RowKit Go.Sort Go.Proofs
structure TotalCmp {f:Type}(cmp:f→f→Int):Prop where
 tot:∀x y,cmp x y≤0∨cmp y x≤0
 trans:∀x y z,cmp x y≤0→cmp y z≤0→cmp x z≤0
 anti:∀x y,cmp x y≤0→cmp y x≤0→x=y
 neg:∀x y,cmp x y<0 ↔ ¬cmp y x≤0
variable{f:Type}
theorem rH (cmp:f→f→Int)(l:List f):(gW cmp l).Perm l:=List.mergeSort_perm _ _
theorem MC {cmp:f→f→Int}(h:TotalCmp cmp)(l:List f):(gW cmp l).Pairwise (λa b=>cmp a b≤0):=by
 have:=List.pairwise_mergeSort (le:=λa b=>decide (cmp a b≤0)) (by
  intro a b c j g;simp at j g⊢;exact h.trans a b c j g) (by
  intro a b;simp;exact h.tot a b) l
 unfold gW;exact this.imp (λh=>by simpa using h)
theorem zB {cmp:f→f→Int}(h:TotalCmp cmp){l g:List f}(p:g.Perm l)(j:g.Pairwise (λa b=>cmp a b≤0)):g=gW cmp l :=
 List.Perm.eq_of_pairwise (le:=λa b=>cmp a b≤0) (λa b _ _ C r=>h.anti a b C r) j (MC h l) (p.trans (rH cmp l).symm)
def anZ (P:Program)(U k:Nat):Prop:=∀{f:Type} [Inhabited f] (j:f→List Value) (_:∀x,(j x).length=k) (_:∀x,∀v∈j x,v.oneCell'=true) (C:f→f→Int) (_:SWO (ltOf C)) (g:Nat) (J:Array Value) (l p cap:Nat) (d:Array f) (w:World)
  (_:∀args w,(callFunc g args).run P w = .ok (.enter g args) w) (_:CmpLays P g J j k C l p d.size w) (_:HoldsK j k w l p d) (_:l<w.heap.size) (_:d.size<4611686018427387904),
  Calls P U #[.slice (some ⟨l,p,none⟩) d.size cap,.func (.func g) #[] J] w λe R=>
   e = .returned (.tuple #[])∧∃r n T,PermIn 0 d.size d r∧SortedIn (ltOf C) 0 d.size r∧R=sortWorldK j k w l p n r T
def agB (P:Program)(j:Nat):Prop:=∀(p:Option Addr) (cap:Nat) (g:Value) (w:World),Calls P j #[.slice p 0 cap,g] w λe f=>e = .returned (.tuple #[])∧f=w
section
variable {P:Program}{B:Bd}{J:World}{C:Sb}{c:Gh}
structure Gd (τ:Ty) where
 g:τ.den→Bool
 z:g (zero τ)=true
structure Held (w:World)(St:Sb)(τ:Ty)(good:Gd τ) where
 x:τ.den
 cs:List Value
 rep:Rep w St (toD τ x) cs
 ok:good.g x=true
instance heldInh {w:World}{St:Sb}{g:Ty}{f:Gd g}:Inhabited (Held w St g f):=⟨⟨zero g,zl g,dl g,f.z⟩⟩
theorem Lb {w:World}{St:Sb}{p:Ty}{good:Gd p}:∀{l:List p.den} {j:List Value},(∀x∈l,good.g x=true)→Rep w St (chain (toD p) l) j→∃r:List (Held w St p good),r.map (·.x)=l∧(r.map (·.cs)).flatten=j
 |[],j,_,h=>by have h:j=[]:=h;subst h;exact⟨[],rfl,rfl⟩
 |x::l,j,f,h=>by obtain⟨c1,c2,rfl,P,J⟩:=h;obtain⟨r,T,R⟩:=Lb (λy C=>f y (C' _ C)) J;exact⟨⟨x,c1,P,f x (c_ ..)⟩::r,by simp[T],by simp[R]⟩
theorem Cp {w:World}{St:Sb}{j:Ty}{f:Gd j}:∀(g:List (Held w St j f)),Rep w St (chain (toD j) (g.map (·.x))) (g.map (·.cs)).flatten
 |[]=>rfl
 |h::g=>⟨h.cs,_,rfl,h.rep,Cp g⟩
variable{τ:Ty}{e:TypeId}
theorem HT {w:World}{St:Sb}{f:Gd τ}(p:0<τ.size)(d:Array (Held w St τ f)):(flatK (λh:Held w St τ f=>h.cs) τ.size d).toList=(d.toList.map (·.cs)).flatten:=by
 have R:∀(l:List (Held w St τ f)) (j:Nat),j<l.length*τ.size→((l.map (·.cs)).flatten)[j]? = some ((l.toArray[j/τ.size]!).cs[j%τ.size]!):=by
  intro l;induction l with
  |nil=>intro j r;simp at r
  |cons h l U=>
   intro j r;have T:=h.rep.size;simp;by_cases g:j<τ.size
   ·rw[ω Ω,S? g,Nat.div_eq_of_lt g];simp[P?,T,g]
   ·rw[P' Ω,T,U (j-τ.size) (by simp only[q_,P_]at r;omega),←Nat.mod_eq_sub_mod Ω];have P:j/τ.size=(j-τ.size)/τ.size+1:=by
     rw[←Nat.add_div_right _ p,Nat.sub_add_cancel Ω]
    rw[P];have J:(j-τ.size)/τ.size<l.length:=by rw[Nat.div_lt_iff_lt_mul p];simp only[q_,P_]at r;omega
    simp[P?,J]
 have C:∀(l:List (Held w St τ f)),((l.map (·.cs)).flatten).length=l.length*τ.size:=λl=>by have:=ba (Cp l);simpa using this
 apply V_;intro j;by_cases r:j<d.size*τ.size
 ·rw[R d.toList j (by simpa using r)];have:(flatK (λh:Held w St τ f=>h.cs) τ.size d).toList[j]? = some ((flatK (λh:Held w St τ f=>h.cs) τ.size d)[j]!):=by
   have g:j<(flatK (λh:Held w St τ f=>h.cs) τ.size d).size:=by rw[size_flatK];exact r
   rw[P? _ j g,l_,ask g]
  rw[this,get_flatK _ _ _ _ r]
 ·rw[z_ (by rw[ρ,size_flatK];omega),z_ (by rw[C];simp;omega)]
theorem TA {w f:World}(R:Below w.heap.size w f)(P:w.drawn≤f.drawn):∃q C,f=grow (w.drewN q) C:=by
 refine⟨f.drawn-w.drawn,f.heap.extract w.heap.size f.heap.size, ?_⟩;obtain⟨T,t1,d1,o1,p1⟩:=f;obtain⟨g,U,d2,o2,p2⟩:=w;obtain⟨q1,q2,l,r,j⟩:=R;simp only at q1 q2 l r j P;simp[grow,World.drewN,World.mk.injEq];refine⟨?_,q2,Ω,q1,l⟩;apply Array.ext_getElem?;intro i;by_cases p:i<g.size
 ·rw[K_ p];exact j i p
 ·rw[Array.getElem?_append_right Ω];simp only[Array.getElem?_extract];by_cases J:i<T.size
  ·rw[β Ω,show g.size+(i-g.size)=i by omega]
  ·rw[ο Ω,arV Ω]
theorem QB (j:Value→Value)(w:World)(f g:Nat)(F:Array Value){l:Array Value}{p:Nat×Nat}(h:w.heap[f]? = some (.cells l e p)):(putRow j w f g F).heap[f]? = some (.cells (putCells j g F l) e p):=by unfold putRow mapBlock;simp[r?,h,onCells]
theorem oP (j:Value→Value)(w:World)(f g:Nat)(F:Array Value){b:Nat}(h:b≠f):(putRow j w f g F).heap[b]? = w.heap[b]?:=by unfold putRow mapBlock;simp[r?,Ne.symm h]
theorem Ja (f:Nat)(F g:Array Value)(h:f+F.size≤g.size):(putCells id f F g).toList=g.toList.take f++F.toList++g.toList.drop (f+F.size):=by
 apply V_;intro j;simp only[putCells,arZ,h_,a_,ρ,E',U'];by_cases J:j<f
 ·repeat (first|rw[β Ω]|rw[ο Ω])
  have:¬(f≤j∧j<f+F.size):=Ω
  have l:j<g.size:=Ω
  simp[this,l]
 ·by_cases C:j<f+F.size
  ·have p:f≤j∧j<f+F.size:=Ω
   have l:j<g.size:=Ω
   have r:j-f<F.size:=Ω
   rw[β Ω,ο Ω,show j-min f g.size=j-f by omega];simp[p,l,r,P?]
  ·have p:¬(f≤j∧j<f+F.size):=Ω
   rw[ο Ω,show f+F.size+(j-(min f g.size+F.size))=j by omega];by_cases l:j<g.size
   ·simp[p,l]
   ·simp[l]
theorem acB {fS g:FuncId}{cmp:τ.den→τ.den→Int}{good:τ.den→Bool}(hz:good (zero τ)=true)(hSt:τ.isStruct=true)(hpos:0<τ.size)(hcS:Callable P fS)(hS:anZ P fS τ.size)(hN:agB P fS)(ho:TotalCmp cmp)
  (hcmp:∀x y,good x=true→good y=true→MeetsD P g [⟨τ,x⟩,⟨τ,y⟩] (.val (.int .i64) (cmp x y))):OQ P fS (acC τ e g cmp good):=by
 intro args heap out heap' h;refine⟨hcS,λB J C c hI hh vs hr=>?_⟩;unfold acC at h;split at h
 next k v lo hi g'=>
  split at h
  next hg=>
   have hg:=κ hg;subst hg;split at h
   ·rename_i τ' e' v' l hk;split at h
    ·rename_i q1;subst q1;split at h
     ·rename_i q2;subst q2;split at h
      ·rename_i l2 hc;obtain⟨et,hl2⟩:=cast?_some hc;injection et with et;subst et;have hl2:l2=l:=hl2;subst hl2;simp only[η,π,ι,Δ,d_]at h;obtain⟨⟨hlim,hgood⟩,rfl,rfl⟩:=h;rw[←hh]at hk⊢;obtain⟨u,u',rfl,h1,h2⟩:∃u u',vs=[u,u']∧RA c (.msl k v' lo hi) [u]∧RA c (.fn g .pnil) [u']:=by
        match vs,hr with
        |[u,u'],⟨h1,h2,_⟩=>exact⟨u,u',rfl,h1,h2⟩
       obtain⟨cs,e2,hcs,_⟩:=h2;have hcs:cs=[]:=hcs;subst hcs;cases e2;have hlive:=dK h1 hk;have nothing:hi-lo=0→lo≤hi→hi≤l2.length→(∃A cp,u = .slice A 0 cp)→Calls P fS #[u,.func (.func g) #[] #[]] c.w λe w'=>∃v c',e = .returned v∧c'.heap=c.heap.set k (.mrow τ' e' v' (l2.take lo++gW cmp ((l2.take hi).drop lo)++l2.drop hi))∧(c.heap.set k (.mrow τ' e' v' (l2.take lo++gW cmp ((l2.take hi).drop lo)++l2.drop hi))).length=c.heap.length∧c'.w=w'∧Inv B J C c'∧Ev c c'∧RA c' (.tup .pnil) [v]:=by
        rintro h0 hle hhl ⟨A,cp,rfl⟩;refine(hN A cp _ c.w).mono ?_;rintro e w' ⟨rfl,rfl⟩;have hsub:(l2.take hi).drop lo=[]:=by apply K';simp;omega
        have heq:l2.take lo++gW cmp ((l2.take hi).drop lo)++l2.drop hi=l2:=by rw[hsub,show hi=lo by omega];simp[gW]
        rw[heq];exact⟨_,c,rfl,(fq hk).symm,Ψ,rfl,hI,Ev.refl c,⟨[],rfl,rfl,rfl⟩⟩
       show Calls P fS #[u,.func (.func g) #[] #[]] c.w _;rcases hlive with⟨g1,rfl,rfl,rfl⟩|⟨gb,n,cap,A,g1,g2,g3,rfl,g5⟩
       ·exact nothing rfl (δ _) (s_ _) ⟨none,0,rfl⟩
       ·obtain⟨rfl,cur,xs,hgb,hnc,hcm,hcs,htk,hrp,hns,hB⟩:=dH hI hk g1;by_cases h0:hi-lo=0
        ·exact nothing h0 g2 g3 ⟨A,cap-lo,by rw[h0]⟩
        ·have hA:A=some ⟨gb,lo*τ'.size,none⟩:=by
          obtain g5|g5:=g5
          ·exact g5
          ·omega
         subst hA;have hmid:=jt lo Ξ (fJ hi g3 hrp);obtain⟨hs,hs1,hs2⟩:=Lb (good:=⟨good,hz⟩) (λx hx=>hgood x (Z_ (k? hx))) hmid;have hlen:hs.length=hi-lo:=by have:=C_ List.length hs1;simp at this;omega
         have hlt:=(θ.1 hgb).1;have hF:=HT hpos hs.toArray;have hhold:HoldsK (λh:Held c.w c.St τ' ⟨good,hz⟩=>h.cs) τ'.size c.w gb (lo*τ'.size) hs.toArray:=by
          intro j hj;have hj':=hj;rw[size_flatK]at hj';simp[hlen]at hj';have hval:(flatK (λh:Held c.w c.St τ' ⟨good,hz⟩=>h.cs) τ'.size hs.toArray)[j]! = ((flatK (λh:Held c.w c.St τ' ⟨good,hz⟩=>h.cs) τ'.size hs.toArray).toList)[j]'(by simpa using hj):=by rw[P? _ j hj];rfl
          have hget:((flatK (λh:Held c.w c.St τ' ⟨good,hz⟩=>h.cs) τ'.size hs.toArray).toList)[j]? = (cur.toList)[lo*τ'.size+j]?:=by
           rw[hF];simp only[hs2,←htk];have hmul:hi*τ'.size≤l2.length*τ'.size:=Y' _ g3;have hmul2:lo*τ'.size+(hi-lo)*τ'.size=hi*τ'.size:=by rw[←Nat.add_mul];congr 1;omega
           rw[U',E',E',β Ω,β Ω]
          refine⟨?_, ?_⟩
          ·simp[World.cell?,hgb,id];rw[hval];have h3:((flatK (λh:Held c.w c.St τ' ⟨good,hz⟩=>h.cs) τ'.size hs.toArray).toList)[j]? = some (((flatK (λh:Held c.w c.St τ' ⟨good,hz⟩=>h.cs) τ'.size hs.toArray).toList)[j]'(by simpa using hj)):=ζ _;rw[hget]at h3;simpa using h3
          ·simp[World.frozen?,hgb]
         have hswo:SWO (ltOf λp q:Held c.w c.St τ' ⟨good,hz⟩=>cmp p.x q.x):=by
          refine⟨λp=>?_,λp q r h1 h2=>?_,λp q r h1 h2=>?_⟩
          ·simp[ltOf];have:=ho.tot p.x p.x;have:=ho.neg p.x p.x;omega
          ·simp only[ltOf,Δ,ho.neg]at *;intro h3;obtain h4|h4:=ho.tot p.x q.x
           ·exact h2 (ho.trans _ _ _ h3 h4)
           ·exact h1 h4
          ·simp only[ltOf,x?,ho.neg,arT]at *;exact ho.trans _ _ _ h2 h1
         have hcl:CmpLays P g #[] (λh:Held c.w c.St τ' ⟨good,hz⟩=>h.cs) τ'.size (λp q=>cmp p.x q.x) gb (lo*τ'.size) hs.toArray.size c.w:=by
          intro m os dk hdk p q;obtain⟨_,hm⟩:=hcmp p.x q.x p.ok q.ok;have hcell:∀(ad:Addr) u,c.St ad.block ad.off→ad.spot=none→c.w.cell? ad=some u→(sortWorldK (λh:Held c.w c.St τ' ⟨good,hz⟩=>h.cs) τ'.size c.w gb (lo*τ'.size) m dk os).cell? ad=some u:=λad u hst _ hc=>by
           have hne:ad.block≠gb:=λe=>hns ad.off (e ▸ hst);have hlt2:=hI.bnd _ _ hst;have:(sortWorldK (λh:Held c.w c.St τ' ⟨good,hz⟩=>h.cs) τ'.size c.w gb (lo*τ'.size) m dk os).heap[ad.block]? = c.w.heap[ad.block]?:=by unfold sortWorldK grow;simp only;rw[K_ (by rw[show(putRowK (λh:Held c.w c.St τ' ⟨good,hz⟩=>h.cs) τ'.size (Sort.ahead c.w m) gb (lo*τ'.size) dk).heap.size=c.w.heap.size from size_putRow _ _ _ _ _];exact hlt2)];exact oP _ _ _ _ _ hne
           exact(X' this).trans hc
          have hrv:∀h:Held c.w c.St τ' ⟨good,hz⟩,RepV (sortWorldK (λh:Held c.w c.St τ' ⟨good,hz⟩=>h.cs) τ'.size c.w gb (lo*τ'.size) m dk os) c.St τ' h.x (.agg h.cs.toArray):=λh=>by unfold RepV;rw[β hSt];exact⟨h.cs,rfl,h.rep.mono (Sb.le.refl _) hcell⟩
          have hsz:c.w.heap.size≤(sortWorldK (λh:Held c.w c.St τ' ⟨good,hz⟩=>h.cs) τ'.size c.w gb (lo*τ'.size) m dk os).heap.size:=size_sortWorldK_c _ _ _ _ _ _ _ _;refine(hm _ c.St (λb o x=>J' (hI.bnd b o x) hsz) [.agg p.cs.toArray,.agg q.cs.toArray] ⟨hrv p,hrv q,awN⟩).mono ?_;rintro e w' ⟨v,St',rfl,hb,hd,_,_,_,hv⟩;refine⟨?_,TA hb hd⟩;obtain⟨v',e1,hv⟩:=hv;simp only[G',A_]at e1;subst e1;rw[cI hv]
         obtain⟨⟨fng,f1,f2,f3⟩,_⟩:=hcmp (zero τ') (zero τ') hz hz;have heg:∀args w,(callFunc g args).run P w = .ok (.enter g args) w:=λargs w=>by
          have hbody:¬fng.body=none:=λe=>by rw[e]at f2;cases f2
          have f3:¬fng.name = "runtime.NumGoroutine":=by simpa using f3
          simp[callFunc,H_,f1,f3,hbody]
         have hcall:=hS (λh:Held c.w c.St τ' ⟨good,hz⟩=>h.cs) (λh=>h.rep.size) (λh v hv=>h.rep.one v hv) (λp q=>cmp p.x q.x) hswo g #[] gb (lo*τ'.size) (cap-lo) hs.toArray c.w heg hcl hhold hlt (by rw[as9,hlen];unfold LIM at hlim;exact as3 (υ (show hi-lo≤l2.length by omega) hlim) Ϛ);have hu:Value.slice (some ⟨gb,lo*τ'.size,none⟩) (hi-lo) (cap-lo) = .slice (some ⟨gb,lo*τ'.size,none⟩) hs.toArray.size (cap-lo):=by simp[hlen]
         rw[hu];refine hcall.mono ?_;rintro e w' ⟨rfl,d',m,os,hperm,hsorted,rfl⟩;obtain⟨p1,_,p3⟩:=hperm;have e1:d'.extract 0 hs.toArray.size=d':=by rw[←p1];exact Array.extract_size
         rw[e1,Array.extract_size]at p3;have hsort:d'.toList.map (·.x)=gW cmp ((l2.take hi).drop lo):=by
          refine zB ho (by rw[←hs1];simpa using p3.map (·.x)) ?_;rw[asl,L_];intro i j hi2 hj2 hij;have hi':i<d'.size:=by simpa using hi2
          have hj':j<d'.size:=by simpa using hj2
          have:=hsorted i j (s_ _) hij Ω;rw[P? d' j hj',P? d' i hi']at this;simp only[ltOf,x?,ho.neg,arT]at this;simpa using this
         have hfl:=HT hpos d';have hrepM:Rep c.w c.St (chain (toD τ') (gW cmp ((l2.take hi).drop lo))) (flatK (λh:Held c.w c.St τ' ⟨good,hz⟩=>h.cs) τ'.size d').toList:=by rw[hfl,←hsort];exact Cp d'.toList
         have hds:d'.size=hi-lo:=by rw[p1];simp[hlen]
         have hFs:(flatK (λh:Held c.w c.St τ' ⟨good,hz⟩=>h.cs) τ'.size d').size=(hi-lo)*τ'.size:=by rw[size_flatK,hds]
         have hmul:hi*τ'.size≤l2.length*τ'.size:=Y' _ g3;have hmul2:lo*τ'.size+(hi-lo)*τ'.size=hi*τ'.size:=by rw[←Nat.add_mul];congr 1;omega
         have hmul3:l2.length*τ'.size≤cap*τ'.size:=Y' _ hnc;have hwh:(sortWorldK (λh:Held c.w c.St τ' ⟨good,hz⟩=>h.cs) τ'.size c.w gb (lo*τ'.size) m d' os).heap[gb]? = some (.cells (putCells id (lo*τ'.size) (flatK (λh:Held c.w c.St τ' ⟨good,hz⟩=>h.cs) τ'.size d') cur) e' (0,0)):=by unfold sortWorldK grow;simp only;rw[K_ (by rw[show(putRowK (λh:Held c.w c.St τ' ⟨good,hz⟩=>h.cs) τ'.size (Sort.ahead c.w m) gb (lo*τ'.size) d').heap.size=c.w.heap.size from size_putRow _ _ _ _ _];exact hlt)];exact QB id (Sort.ahead c.w m) gb (lo*τ'.size) _ hgb
         have hgrown:c.w.grownBy (sortWorldK (λh:Held c.w c.St τ' ⟨good,hz⟩=>h.cs) τ'.size c.w gb (lo*τ'.size) m d' os) (some gb):=by refine⟨rfl,rfl,rfl,size_sortWorldK_c _ _ _ _ _ _ _ _,λb hb hne=>?_⟩;have hne:b≠gb:=λe=>hne (by rw[e]);unfold sortWorldK grow;simp only;rw[K_ (by rw[show(putRowK (λh:Held c.w c.St τ' ⟨good,hz⟩=>h.cs) τ'.size (Sort.ahead c.w m) gb (lo*τ'.size) d').heap.size=c.w.heap.size from size_putRow _ _ _ _ _];exact hb)];exact oP _ _ _ _ _ hne
         have hob:obk c k=some gb:=by unfold obk;rw[hk,g1];rfl
         have hcell:∀(ad:Addr) u,c.St ad.block ad.off→ad.spot=none→c.w.cell? ad=some u→(sortWorldK (λh:Held c.w c.St τ' ⟨good,hz⟩=>h.cs) τ'.size c.w gb (lo*τ'.size) m d' os).cell? ad=some u:=λad u hst _ hc=>
          hgrown.cell hc (λe=>hns ad.off (by injection e with e;rw[←e];exact hst))
         have hpc:=Ja (lo*τ'.size) (flatK (λh:Held c.w c.St τ' ⟨good,hz⟩=>h.cs) τ'.size d') cur (by rw[hFs,hcs];omega);have hlen2:(l2.take lo++gW cmp ((l2.take hi).drop lo)++l2.drop hi).length=l2.length:=by
          have:(gW cmp ((l2.take hi).drop lo)).length=hi-lo:=by rw[(rH cmp _).length_eq];simp;omega
          simp only[a_,this,h_,ass];omega
         have hT:(putCells id (lo*τ'.size) (flatK (λh:Held c.w c.St τ' ⟨good,hz⟩=>h.cs) τ'.size d') cur).toList.take (l2.length*τ'.size)=xs.take (lo*τ'.size)++(flatK (λh:Held c.w c.St τ' ⟨good,hz⟩=>h.cs) τ'.size d').toList++xs.drop (hi*τ'.size):=by
          rw[hpc,←htk,hFs,hmul2];have hcl2:cur.toList.length=cap*τ'.size:=by rw[ρ,hcs]
          have hFl:(flatK (λh:Held c.w c.St τ' ⟨good,hz⟩=>h.cs) τ'.size d').toList.length=(hi-lo)*τ'.size:=by rw[ρ,hFs]
          apply V_;intro j;simp only[E',arZ,U',h_,a_,hcl2,hFl];by_cases q1:j<lo*τ'.size
          ·repeat (first|rw[β Ω]|rw[ο Ω])
          ·by_cases q2:j<hi*τ'.size
           ·repeat (first|rw[β Ω]|rw[ο Ω])
            congr 1;omega
           ·by_cases q3:j<l2.length*τ'.size
            ·repeat (first|rw[β Ω]|rw[ο Ω])
             congr 1;omega
            ·repeat (first|rw[β Ω]|rw[ο Ω])
         have r1:=fJ lo Ω hrp;have r3:=jt hi g3 hrp;have hall:=dx (dx r1 hrepM) r3;obtain⟨hI',hE'⟩:=hI.obj (k:=k) (ho' :=.mrow τ' e' v' (l2.take lo++gW cmp ((l2.take hi).drop lo)++l2.drop hi)) (w':=sortWorldK (λh:Held c.w c.St τ' ⟨good,hz⟩=>h.cs) τ'.size c.w gb (lo*τ'.size) m d' os) (St':=c.St) (r':=c.rv k) (aq hk)
          (by rw[hob];exact hgrown) (T? _ _) (Sb.le.refl _) (λ_ _ _ _ x=>x) (λ_ _ x=>.inl x) hcell (.inr ⟨τ',e',v',l2,hk,.inl ⟨v',_,rfl,δ _,λ_=>rfl⟩⟩)
          (.inr ⟨τ',e',v',_,rfl,.inr (.inl (by rw[hob,g1];rfl)),_,⟨by rw[ba hall],.inr ⟨gb,cap,_,by rw[g1,hlen2],hB,hwh,by rw[hlen2];exact hnc,hcm,by rw[←hcs];simp[putCells],by rw[hlen2];exact hT⟩⟩,hall.mono (Sb.le.refl _) hcell,λb hb o=>by
           rw[g1]at hb;simp only[Value.ownBlock,η]at hb;rw[←hb];exact hns o⟩)
         exact⟨_,_,rfl,rfl,Ψ,rfl,hI',hE',⟨[],rfl,rfl,rfl⟩⟩
      ·cases h
     ·cases h
    ·cases h
   ·cases h
  ·cases h
 ·cases h
end
