/- The statement 'ReuseLearnsSaid': for every input the law returns true and the input reads as it did. No condition. -/
import Derived.Test.YtboikinjlmjgjaaGreatTotL
import Derived.Test.YtboikinjlmjgjaaGreatGenU
import Derived.Test.YtboikinjlmjgjaaGreatAbsX
import Derived.Test.YtboikinjlmjgjaaGreatRows
namespace Go.Proofs.YtboikinjlmjgjaaGreat.Abs
open Go
def AE (w:List Cel) (id f:Int):Option Cel:=w.find? fun c=>decide (c.1=id)&&decide (c.2.1=f)
def adw:Option Cel→Val×Bool×Unit
 | some c=>(c.2.2.1,true,())
 | none=>((0,false,[],0,()),false,())
theorem zp (c:Com) (id f:Int) (hs:(ws c).length<1000000) : ∀ (n:Nat) (r p:List Cel),ws c=p++r→r.length<n→o6 n id f c p.length=some (adw (AE r id f))
 | 0,r,p,_,h=>by omega
 | n+1,r,p,e,h=>by
  show nE false some (o6 n) id f c p.length=_
  have hpl:p.length+r.length=(ws c).length:=by rw [e]; simp
  simp only [nE,s2,il,zM]
  cases r with
  | nil=>rw [show c.2.2.2.2.1=p++[] from e,ib (t:=ac)]; rfl
  | cons d r =>
   simp only [List.length_cons] at hpl h
   have next:=zp c id f hs n r (p++[d]) (by rw [e]; simp) (by omega)
   rw [← fK (t:=ac) p d (by omega)] at next
   rw [next,show c.2.2.2.2.1=p++d::r from e,bQ (t:=ac),dE (t:=ac),aX (by omega) (by simp; omega)]
   simp only [ck,cond_true,AE,List.find?_cons]
   by_cases h1:d.1=id <;> by_cases h2:d.2.1=f <;> simp [h1,h2,adw]
theorem UG (c:Com) (id f:Int) (hs:(ws c).length<1000000):nF c id f=some (adw (AE (ws c) id f)):=by
 simp only [nF,vo]
 exact zp c id f hs FU (ws c) [] rfl (by rw [bF]; omega)
theorem vl (w:List Cel) (id f:Int) (hs:w.length<1000000) : ∀ (n:Nat) (i:Int), -1≤i→i<w.length→i+1<n→Tot (eR n w id f i) fun r=>r.2.1=true → ∃ c∈w,(c.1=id∧c.2.1=f)∧r.1=c.2.2.1
 | 0,i,h0,h1,h=>by omega
 | n+1,i,h0,h1,h=>by
  show Tot (em false some (eR n) w id f i) _
  simp only [em,tt]
  refine ⟨fun hi => ?_,fun hi h=>(nomatch h)⟩
  have hi:0≤i:=by simpa using hi
  refine ⟨aX hi h1,aF fun _=>aX hi h1,fun hc=>⟨aX hi h1,fun _ => ?_⟩,fun hc => ?_⟩
  ·simp only [Bool.cond_false_right,Bool.and_eq_true,decide_eq_true_eq] at hc
   exact ⟨_,fM (t:=ac) hi h1,hc,rfl⟩
  ·rw [aI (by omega) (by omega)]
   exact vl w id f hs n (i-1) (by omega) (by omega) (by omega)
theorem aa0 : ∀ {w:List Cel} {id f:Int} {c:Cel},vj w→c∈w→(c.1=id∧c.2.1=f)→AE w id f=some c
 | [],_,_,_,_,h,_=>by cases h
 | d::w,id,f,c,ho,h,e=>by
  obtain ⟨h1,h2⟩:=List.pairwise_cons.1 ho
  simp only [AE,List.find?_cons]
  rcases List.mem_cons.1 h with rfl | h
  ·simp [e.1,e.2]
  ·have hd:=h1 c h
   have:(decide (d.1=id)&&decide (d.2.1=f))=false:=by
    rw [Bool.eq_false_iff]
    intro hh
    simp only [Bool.and_eq_true,decide_eq_true_eq] at hh
    rw [hh.1,hh.2,e.1,e.2,nc] at hd; omega
   rw [this]
   exact aa0 h2 h e
theorem aiI {w:List Cel} {id f:Int} (h : ¬ Wr w id f):AE w id f=none:=by
 unfold AE
 rw [List.find?_eq_none]
 intro c hc e
 simp only [Bool.and_eq_true,decide_eq_true_eq] at e
 exact h ⟨c,hc,e⟩
theorem Ld (w:List Cel) (id f:Int) (ho:vj w) (hs:w.length<1000000):Tot (cG w id f) fun r=>r.2.1=(AE w id f).isSome ∧ ∀ c,AE w id f=some c→r.1=c.2.2.1:=by
 have h2:Tot (cG w id f) fun r=>r.2.1=true → ∃ c∈w,(c.1=id∧c.2.1=f)∧r.1=c.2.2.1:=by
  simp only [cG,kv,tt,il]
  rw [aI (by omega) (by omega)]
  exact vl w id f hs FU _ (by omega) (by omega) (by rw [bF]; omega)
 refine ((gk w id f hs).and h2).mono fun r hr => ?_
 cases hb:r.2.1 with
 | false =>
  have : ¬ Wr w id f:=fun hh=>by rw [hr.1.2 hh] at hb; cases hb
  rw [aiI this]
  exact ⟨rfl,fun c hc=>by cases hc⟩
 | true =>
  obtain ⟨c,hc,e1,e2⟩:=hr.2 hb
  rw [aa0 ho hc e1]
  exact ⟨rfl,fun d hd=>by cases hd; exact e2⟩
theorem u5 : ∀ (n:Nat) (l:List Stg),∀ r∈rG n l,r.1=2
 | 0,_,r,h=>by cases h
 | _+1,[],r,h=>by cases h
 | n+1,x::l,r,h=>by
  rw [u6] at h
  rcases List.mem_append.1 h with h | h
  ·split at h
   ·cases h
   ·rw [List.mem_singleton.1 h]
  ·exact u5 n _ r h
def we (w:List Cel) (k id f:Int) (al:List Alt):Option Rec:=if k=1 then (AE w id f).map fun c=>(id,f,b6 al,c.2.2.1,()) else none
def Ih (w:List Cel) (l:List Reg):List Rec:=l.filterMap fun x=>we w x.1 x.2.1 x.2.2.1 x.2.2.2.1
def Ig (w:List Cel) (l:List RgJ):List Rec:=l.filterMap fun x=>we w x.1 x.2.1 x.2.2.1 x.2.2.2.1
def Ie (w:List Cel) (s:Sta):List Rec:=(s.1.filter fun x=>eh x.2.2.1).filterMap fun x=>we w 1 x.1 x.2.1 x.2.2.1
theorem adn (w:List Cel) (s:Sta):Ih w (E0 s)=Ie w s:=by
 unfold Ih E0 gt Ie
 rw [List.filterMap_append,List.filterMap_map]
 have : ∀ l:List Reg,(∀ r∈l,r.1=2)→l.filterMap (fun x=>we w x.1 x.2.1 x.2.2.1 x.2.2.2.1)=[]:=fun l h=>by
  rw [List.filterMap_eq_nil_iff]
  intro r hr
  rw [h r hr]; rfl
 rw [this _ (u5 _ _),List.append_nil]; rfl
theorem adm (w:List Cel) (s:Sta) (cr:List RgJ) (h : ∀ x∈cr,x.1=2):Ig w (dx s++cr)=Ie w s:=by
 unfold Ig dx Ie
 rw [List.filterMap_append,List.filterMap_map]
 have:cr.filterMap (fun x=>we w x.1 x.2.1 x.2.2.1 x.2.2.2.1)=[]:=by
  rw [List.filterMap_eq_nil_iff]
  intro r hr
  rw [h r hr]; rfl
 rw [this,List.append_nil]; rfl
theorem zQ (c:Com) (hs:(ws c).length<1000000) (L:List Reg) (hL:L.length≤2000000) (ha : ∀ x∈L,x.1=1→x.2.2.2.1.length≤1048576) : ∀ (n:Nat) (r p:List Reg),L=p++r→r.length<n→Tot (pM n L c (Ih (ws c) p) p.length) fun q=>q=Ih (ws c) L
 | 0,r,p,_,h=>by omega
 | n+1,r,p,e,h=>by
  show Tot (oA false some (pM n) L c (Ih (ws c) p) p.length) _
  have hpl:p.length+r.length=L.length:=by rw [e]; simp
  have hrl:(Ih (ws c) p).length≤p.length:=List.length_filterMap_le ..
  simp only [oA,ki,tt,il]
  rw [aI (n:=(p.length:Int)+1) (by omega) (by omega)]
  cases r with
  | nil =>
   have e:L=p:=by simpa using e
   subst e
   exact ⟨fun hc=>by simp at hc,fun _=>rfl⟩
  | cons x r =>
   simp only [List.length_cons] at hpl h
   have next:=zQ c hs L hL ha n r (p++[x]) (by rw [e]; simp) (by omega)
   have ex:ix aG L (p.length:Int)=x:=by rw [e]; exact bQ (t:=aG) p x r
   have hb:bd (p.length:Int) L.length=true:=aX (by omega) (by omega)
   have hx:x∈L:=by rw [e]; simp
   have ep:((p++[x]).length:Int)=(p.length:Int)+1:=by simp
   have es:Ih (ws c) (p++[x])=Ih (ws c) p++(we (ws c) x.1 x.2.1 x.2.2.1 x.2.2.2.1).toList:=by
    unfold Ih; rw [List.filterMap_append]; congr 1
   rw [ex]
   rw [ep,es] at next
   refine ⟨fun _=>⟨hb,fun hk => ?_,fun hk=>⟨_,UG c _ _ hs, ?_⟩⟩,fun hc=>absurd hc (by simp; omega)⟩
   ·have hk : ¬ x.1=1:=by simpa using hk
    simpa [we,hk] using next
   ·have hk:x.1=1:=by simpa using hk
    have hl:md x.2.2.2.1=true:=decide_eq_true (ha x hx hk)
    cases hf:AE (ws c) x.2.1 x.2.2.1 with
    | none =>
     refine ⟨fun h=>(nomatch h),fun _ => ?_⟩
     simpa [we,hk,hf] using next
    | some d =>
     refine ⟨fun _=>⟨hl,dP (by simp; omega), ?_⟩,fun h=>(nomatch h)⟩
     simpa [we,hk,hf,adw] using next
theorem zP (c:Com) (ho:vj (ws c)) (hs:(ws c).length<1000000) (L:List RgJ) (hL:L.length≤2000000) (ha : ∀ x∈L,x.1=1→x.2.2.2.1.length≤1048576) : ∀ (n:Nat) (r p:List RgJ),L=p++r→r.length<n→Tot (pJ n L c (Ig (ws c) p) p.length) fun q=>q=Ig (ws c) L
 | 0,r,p,_,h=>by omega
 | n+1,r,p,e,h=>by
  show Tot (ow false some (pJ n) L c (Ig (ws c) p) p.length) _
  have hpl:p.length+r.length=L.length:=by rw [e]; simp
  have hrl:(Ig (ws c) p).length≤p.length:=List.length_filterMap_le ..
  simp only [ow,ox,tt,il]
  rw [aI (n:=(p.length:Int)+1) (by omega) (by omega)]
  cases r with
  | nil =>
   have e:L=p:=by simpa using e
   subst e
   exact ⟨fun hc=>by simp at hc,fun _=>rfl⟩
  | cons x r =>
   simp only [List.length_cons] at hpl h
   have next:=zP c ho hs L hL ha n r (p++[x]) (by rw [e]; simp) (by omega)
   have ex:ix aY L (p.length:Int)=x:=by rw [e]; exact bQ (t:=aY) p x r
   have hb:bd (p.length:Int) L.length=true:=aX (by omega) (by omega)
   have hx:x∈L:=by rw [e]; simp
   have ep:((p++[x]).length:Int)=(p.length:Int)+1:=by simp
   have es:Ig (ws c) (p++[x])=Ig (ws c) p++(we (ws c) x.1 x.2.1 x.2.2.1 x.2.2.2.1).toList:=by
    unfold Ig; rw [List.filterMap_append]; congr 1
   rw [ex]
   rw [ep,es] at next
   refine ⟨fun _=>⟨hb,hb,(Ld (ws c) x.2.1 x.2.2.1 ho hs).mono fun r2 hr=>⟨hb,fun hc => ?_,fun hc => ?_⟩⟩,fun hc=>absurd hc (by simp; omega)⟩
   ·simp only [Bool.cond_false_right,Bool.and_eq_true,decide_eq_true_eq] at hc
    have hl:md x.2.2.2.1=true:=decide_eq_true (ha x hx hc.1)
    rw [hc.2] at hr
    obtain ⟨d,hd⟩:=Option.isSome_iff_exists.1 hr.1.symm
    rw [hr.2 d hd]
    refine ⟨hb,hb,hb,hl,dP (by simp; omega), ?_⟩
    simpa [we,hc.1,hd] using next
   ·have:we (ws c) x.1 x.2.1 x.2.2.1 x.2.2.2.1=none:=by
     unfold we
     by_cases hk:x.1=1
     ·rw [if_pos hk]
      have h2:r2.2.1=false:=by simpa [hk] using hc
      rw [h2] at hr
      cases hq:AE (ws c) x.2.1 x.2.2.1 with
      | none=>rfl
      | some d =>
       rw [hq] at hr
       exact absurd hr.1 (by simp)
     ·rw [if_neg hk]
    rw [this] at next
    simpa using next
theorem G6 : ∀ (n:Nat) (l:List Stg),(rG n l).length≤n
 | 0,_=>Nat.le_refl _
 | _+1,[]=>Nat.zero_le _
 | n+1,x::l=>by
  rw [u6,List.length_append]
  have:=G6 n (l.dropWhile (fun y=>eqD bm y.1 x.1))
  split <;> simp <;> omega
theorem ada {s:Sta}:(E0 s).length≤2 * s.1.length:=by
 have h1:=BV s
 have h2:=G6 (g8 (bJ s)).length (g8 (bJ s))
 have h3:=FW (bJ s)
 have h4:=oq s
 simp only [E0,List.length_append]; omega
theorem De {s:Sta} (h:St1 s) (hl:s.1.length≤500000) (c:Com) (hs:(ws c).length<1000000):Tot (kj s c) fun q=>q=Ie (ws c) s:=by
 simp only [kj,wQ,tt]
 have:=ada (s:=s)
 refine ⟨h.stg,(zQ c hs (E0 s) (by omega) (fun x hx hk => ?_) FU (E0 s) [] rfl (by rw [bF]; omega)).mono fun q hq=>by rw [hq,adn]⟩
 rcases List.mem_append.1 hx with hx | hx
 ·simp only [gt,List.mem_map,List.mem_filter] at hx
  obtain ⟨y,⟨hy,_⟩,rfl⟩:=hx
  have:=(h.alts y hy).2
  show y.2.2.1.length≤_; omega
 ·have:=u5 _ _ x hx
  rw [hk] at this
  exact absurd this (by decide)
theorem Dd {s:Sta} (h:St1 s) (hl:s.1.length≤500000) (c:Com) (ho:vj (ws c)) (hs:(ws c).length<1000000):Tot (kh s c) fun q=>q=Ie (ws c) s:=by
 simp only [kh,wP,tt]
 refine (Yf h hl).mono fun q hq => ?_
 obtain ⟨cr,rfl,h2,h3⟩:=hq
 have hv:(dx s).length≤s.1.length:=by simp only [dx,List.length_map]; exact List.length_filter_le ..
 have hlen:(dx s++cr).length≤2000000:=by rw [List.length_append]; omega
 refine (zP c ho hs (dx s++cr) hlen (fun x hx hk => ?_) FU (dx s++cr) [] rfl (by rw [bF]; omega)).mono fun q hq=>by rw [hq,adm _ _ _ h2]
 rcases List.mem_append.1 hx with hx | hx
 ·simp only [dx,List.mem_map,List.mem_filter] at hx
  obtain ⟨y,⟨hy,_⟩,rfl⟩:=hx
  have:=(h.alts y hy).2
  show y.2.2.1.length≤_; omega
 ·have:=h2 x hx
  rw [hk] at this
  exact absurd this (by decide)
theorem Ly (l:List Alt):(b6 l).length≤l.length:=by
 have:=(tq ld hX (l.map (fun a:Alt=>a.2.1)) [] List.Pairwise.nil).2.2
 rw [List.foldl_map] at this; simpa [b6] using this
theorem Tl {s:Sta} (h:St1 s) (w:List Cel):(Ie w s).length≤s.1.length ∧ ∀ x∈Ie w s,zK x=true:=by
 refine ⟨Nat.le_trans (List.length_filterMap_le ..) (List.length_filter_le ..),fun x hx => ?_⟩
 simp only [Ie,List.mem_filterMap,List.mem_filter] at hx
 obtain ⟨y,⟨hy,_⟩,e⟩:=hx
 simp only [we,if_true,Option.map_eq_some_iff] at e
 obtain ⟨d,_,rfl⟩:=e
 have:=(h.alts y hy).2
 have:=Ly y.2.2.1
 exact decide_eq_true (by unfold LIM; show (b6 y.2.2.1).length≤_; omega)
theorem zG (l:List Rec) (hl:l.length≤1000000) (hr : ∀ x∈l,zK x=true) : ∀ (n:Nat) (r p:List Rec),l=p++r→r.length<n→pq n l l p.length=some true
 | 0,r,p,_,h=>by omega
 | n+1,r,p,e,h=>by
  subst e
  show n0 false some (pq n) (p++r) (p++r) p.length=_
  simp only [n0,s1,s2,il]
  cases r with
  | nil=>rw [ib (t:=ag)]; rfl
  | cons c r =>
   have next:=zG (p++c::r) hl hr n r (p++[c]) (by simp) (by simp at h; omega)
   rw [← fK (t:=ag) p c (by simp at hl; omega)] at next
   have hc:=hr c (by simp)
   rw [dE (t:=ag),bQ (t:=ag),aX (by omega) (by simp; omega),next,S6 hc hc,OG.refl]
   rfl
theorem zF (l:List Rec) (hl:l.length≤1000000) (hr : ∀ x∈l,zK x=true):kc l l=some true:=by
 simp only [kc,vU]
 simp only [decide_true,Bool.not_true,cond_false]
 exact zG l hl hr FU l [] rfl (by rw [bF]; omega)
abbrev rA:Rec:=(1048577,3,[(0,false,[103],0,()),(0,false,[104],0,())],(0,false,[103],0,()),())
abbrev rB:Rec:=(1048577,3,[(0,false,[103],0,()),(0,false,[104],0,())],(0,false,[104],0,()),())
theorem ac1:dv gW [rA,rB,rA]=[rA,rA,rB] :=
 (vM Ew (List.Perm.cons _ (List.Perm.swap _ _ _)) (by decide)).symm
theorem alQ (k:gR bS):rP k FU [rA] [rB,rA] 0 0 0 []=k [rA] [rB,rA] 1 1 [rA]:=by kernel_rfl
theorem alP (k:gR bS):rP k FU [rA] [rB,rA] 1 1 0 [rA]=k [rA] [rB,rA] 3 2 [rA,rB,rA]:=by kernel_rfl
theorem alO:gT FU 3 [rA] [rB,rA] 2 3 1 [rA,rA,rB]=some [rA,rB]:=by kernel_rfl
theorem acz (n:Nat):rR (n+1)=qf false some (rP (rR n) FU) (gT FU):=by kernel_rfl
theorem alN (k:jv bS) (k':cN bS):qf false some k k' [rA] [rB,rA] 0 0 []=k [rA] [rB,rA] 0 0 0 []:=by kernel_rfl
theorem alM (k:jv bS) (k':cN bS):qf false some k k' [rA] [rB,rA] 1 1 [rA]=k [rA] [rB,rA] 1 1 0 [rA]:=by kernel_rfl
theorem ajP:tP [rA] [rB,rA]=some [rA,rB]:=by
 have e:tP [rA] [rB,rA]=rR (1099511627773+1+1+1) [rA] [rB,rA] 0 0 []:=by kernel_rfl
 rw [e,acz,alN,alQ,acz,alM,alP,acz]
 simp only [qf,s2]
 show gT FU 3 [rA] [rB,rA] 2 3 1 (List.take 0 [rA,rB,rA]++dv gW [rA,rB,rA]++[])=_
 rw [ac1]
 exact alO
theorem Ay:io=some true:=by
 unfold io tK agK agL
 rw [ajP]
 kernel_rfl
theorem Us {h:List Com} {s:Sta} (hh:H0 h) (hs:AtP h s):s.1.length≤500000:=by
 have:=hh.sum
 obtain ⟨_,_,_,_,h⟩:=hs
 have:=h.len; omega
theorem rc {h:List Com} (hh:H0 h) (hne:h≠[]) : ∀ (n:Nat) (i:Nat),i≤h.length→h.length-i<n→Tot (iy n h i) fun r=>r=true
 | 0,i,h0,h1=>by omega
 | n+1,i,h0,h1=>by
  show Tot (gG false some (iy n) h i) _
  have hfew:=hh.few
  have hpos:0<h.length:=List.length_pos_iff.2 hne
  have hsum:=hh.sum
  simp only [gG,tt,il]
  have e1:w64 ((i:Int)+1)=((i+1:Nat):Int):=by rw [aI (by omega) (by omega)]; omega
  rw [e1]
  refine ⟨fun hc => ?_,fun _ => ?_⟩
  ·have hc:i<h.length:=by simp at hc; omega
   have hb:bd (i:Int) h.length=true:=aX (by omega) (by omega)
   have hm:=fM (t:=ae) (l:=h) (i:=(i:Int)) (by omega) (by omega)
   refine ⟨hb,(zg h hh _ (by have:=hh.par _ hm; omega)).mono fun s hs=>⟨hb, ?_⟩⟩
   have hst:=hs.st1 hh
   have hlen:=Us hh hs
   have hw:=qo hm
   refine (De hst hlen _ (by omega)).mono fun r3 h3=>⟨hb,(Dd hst hlen _ (hh.ord _ hm) (by omega)).mono fun r4 h4 => ?_⟩
   subst h3 h4
   have ok:=Tl hst (ws (ix ae h (i:Int)))
   exact ⟨true,zF _ (by have:=ok.1; omega) ok.2,fun h=>(nomatch h),fun _=>rc hh hne n (i+1) (by omega) (by omega)⟩
  ·have hb:bd 0 h.length=true:=aX (by omega) (by omega)
   have hm:=fM (t:=ae) (l:=h) (i:=0) (by omega) (by omega)
   refine (af2 h hh).mono fun s hs=>⟨hb, ?_⟩
   have hst:=hs.st1 hh
   have hlen:=Us hh hs
   have hw:=qo hm
   refine (De hst hlen _ (by omega)).mono fun r3 h3=>⟨hb,(Dd hst hlen _ (hh.ord _ hm) (by omega)).mono fun r4 h4 => ?_⟩
   subst h3 h4
   have ok:=Tl hst (ws (ix ae h 0))
   exact ⟨true,zF _ (by have:=ok.1; omega) ok.2,by unfold OQ; rw [Ay]; rfl,by unfold OR; rw [Ay]; rfl⟩
theorem Fc (first:Int) (l:List bB.den):Tot (e7 first l) fun r=>r=true:=by
 simp only [e7,mQ,tt]
 exact (IY first l).mono fun h hh=>rc hh.h0 hh.ne FU 0 (by omega) (by rw [bF]; have:=hh.h0.few; omega)
end Go.Proofs.YtboikinjlmjgjaaGreat.Abs
namespace Go.Proofs.YtboikinjlmjgjaaGreat.Abs
open Go Go.ChangeShapes Go.WideShapes Go.ChangeAt Go.RowKit
theorem XK : ∀ t τ,tX.tab.ty t=some τ→τ.good=true:=fun t τ h=>List.all_eq_true.1 (by kernel_rfl:(tX.ty.all fun p=>p.2.good)=true) (t,τ) (fq h)
theorem aj0:ownKnob Tryz.prog.godebug=none:=by kernel_rfl
theorem aho:laidOutB Tryz.prog=true:=by kernel_rfl
theorem EY (xs:List ((t:Ty)×t.den)) (h:xs.map (·.1)=[aa,(.slice bB)]):nB Tryz.prog 5 xs (.val .bool true):=by
 match xs,h with
 | [⟨_,x0⟩,⟨_,x1⟩],rfl =>
  obtain ⟨r,e,hr⟩:=Fc x0 x1
  have he:zS (([⟨aa,x0⟩,⟨(.slice bB),x1⟩]:List ((t:Ty)×t.den)).map fun d => .val d.1 d.2)=some ((e7 x0 x1).isSome,af ((e7 x0 x1).getD (zero .bool))):=by kernel_rfl
  rw [e,hr] at he
  exact jR Nn he
theorem EZ:LawOk Tryz.checked tX.tab 5 Tryz.f5 [aa,(.slice bB)] 4 :=
 ⟨aj0,by kernel_rfl,Tryz.func5,aho,by kernel_rfl,by kernel_rfl,by kernel_rfl,adp (by kernel_rfl),XK,vC⟩
theorem yi (H:Type) (ds:List (DataW H)) (h:ds.length=2):Rows.reuseLearnsSpec.fn H ds={ results:=[.lit (.bool true)],args:=ds }:=by
 match ds,h with
 | [x0,x1],_=>rfl
set_option maxRecDepth 100000 in
theorem reuseLearns_holds:Rows.ReuseLearnsSaid :=
 OpenClaim.holds_of_wide 5 Tryz.f5 rfl rfl rfl rfl rfl rfl rfl ⟨rfl,rfl,rfl,rfl,rfl⟩ rfl rfl rfl rfl rfl (by kernel_rfl) Tryz.func5 (by kernel_rfl)
  (of_decide_eq_true (by kernel_rfl)) (by unfold Func.isWrapper; first | (rw [if_pos (by decide +kernel)]; kernel_rfl) | (rw [if_neg (by decide +kernel)]; exact ⟨rfl,rfl⟩))
  (fun _ started _ enc _=>QJ EZ rfl yi (fun xs h _=>EY xs h) started
   (ChangeSpec.witness6 (enc:=enc) (C:=Tryz.checked) false ⟨#[], #[.int .i64 0,.slice none 0 0],[]⟩ 8 (by kernel_rfl) (by kernel_rfl) (by kernel_rfl) (by kernel_rfl)))
#print axioms reuseLearns_holds
end Go.Proofs.YtboikinjlmjgjaaGreat.Abs
