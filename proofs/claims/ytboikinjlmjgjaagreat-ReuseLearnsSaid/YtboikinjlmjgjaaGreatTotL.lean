/- Evaluators that always answer: the reference's regions. -/
import Derived.Test.YtboikinjlmjgjaaGreatTotJ
import Derived.Test.YtboikinjlmjgjaaGreatGenJ
namespace Go.Proofs.YtboikinjlmjgjaaGreat.Abs
open Go
def adz:Cel→List Cel→Bool
 | _,[]=>true
 | a,b::r=>ahd a.1 a.2.1 b.1 b.2.1&&adz b r
def aj1:List Cel→Bool
 | []=>true
 | a::r=>adz a r
theorem MP : ∀ {r:List Cel} {a:Cel},adz a r=true→Chn a r
 | [],_,_=>trivial
 | b::r,a,h=>by
  simp only [adz,Bool.and_eq_true] at h
  exact ⟨h.1,MP h.2⟩
theorem Yy {l:List Cel} (h:aj1 l=true):vj l:=by
 cases l with
 | nil=>exact List.Pairwise.nil
 | cons a r=>exact KR (MP h)
def gL (c:Com):Bool:=decide (c.2.1.length≤4)&&aj1 (ws c)&&(ws c).all (fun x=>decide (x.2.2.1.2.2.1.length<1000))&&decide ((ws c).length≤200)
theorem Se {c:Com} (h:gL c=true):First1 c:=by
 simp only [gL,Bool.and_eq_true,decide_eq_true_eq,List.all_eq_true] at h
 exact ⟨h.1.1.1,Yy h.1.1.2,h.1.2,h.2⟩
theorem aft:(cC 0).elim false gL=true:=by kernel_rfl
theorem afs:(cC 1).elim false gL=true:=by kernel_rfl
theorem afr:(cC 2).elim false gL=true:=by kernel_rfl
theorem afq:(cC 3).elim false gL=true:=by kernel_rfl
theorem afp:(cC 4).elim false gL=true:=by kernel_rfl
theorem afo:(cC 5).elim false gL=true:=by kernel_rfl
theorem afn:(cC 6).elim false gL=true:=by kernel_rfl
theorem afm:(cC 7).elim false gL=true:=by kernel_rfl
theorem YR:(bC 0 8=some 0∧bC 1 8=some 1∧bC 2 8=some 2∧bC 3 8=some 3)∧(bC 4 8=some 4∧bC 5 8=some 5∧bC 6 8=some 6∧bC 7 8=some 7) :=
 ⟨⟨by kernel_rfl,by kernel_rfl,by kernel_rfl,by kernel_rfl⟩,by kernel_rfl,by kernel_rfl,by kernel_rfl,by kernel_rfl⟩
theorem gd {x r:Int} (e:bC x 8=some r) (e':bC r 8=some r):cC x=cC r:=by
 have h1:GP x=GP r:=by simp only [GP,aek,s0,e,e']
 have h2:GO x=GO r:=by simp only [GO,aej,s0,h1]
 simp only [cC,xy,s0,h2]
theorem jh {c:Option Com} (h:c.elim false gL=true):Tot c First1:=by
 cases c with
 | none=>cases h
 | some c=>exact ⟨c,rfl,Se h⟩
theorem Sd (x:Int):Tot (cC x) First1:=by
 obtain ⟨r,e,h0,h1⟩:=cA x 8 (by omega) (by omega)
 have hm:=YR
 have hc:r=0∨r=1∨r=2∨r=3∨r=4∨r=5∨r=6∨r=7:=by omega
 rcases hc with rfl | rfl | rfl | rfl | rfl | rfl | rfl | rfl
 ·rw [gd e hm.1.1]; exact jh aft
 ·rw [gd e hm.1.2.1]; exact jh afs
 ·rw [gd e hm.1.2.2.1]; exact jh afr
 ·rw [gd e hm.1.2.2.2]; exact jh afq
 ·rw [gd e hm.2.1]; exact jh afp
 ·rw [gd e hm.2.2.1]; exact jh afo
 ·rw [gd e hm.2.2.2.1]; exact jh afn
 ·rw [gd e hm.2.2.2.2]; exact jh afm
theorem First1.his {c:Com} (h:First1 c):HisP 0 [c]:=⟨h.h0,by simp,by simp,by have:=h.len; simp [dl,bnd]; omega⟩
theorem IY (first:Int) (l:List bB.den):Tot (i6 first l) (HisP 9):=by
 simp only [i6,pT,tt]
 exact (Sd first).mono fun c hc=>np l FU [c] [c.1] 0 hc.his (by simp) (by simp) (by omega) (by rw [bF]; omega)
end Go.Proofs.YtboikinjlmjgjaaGreat.Abs
namespace Go.Proofs.YtboikinjlmjgjaaGreat.Abs
open Go
abbrev RgJ:=aY.den
def CrP (i:Int) (x:RgJ):Prop:=x.1=2∧((x.2.2.2.2.1:Nat):Int)≤i
theorem CrP.mono {i j:Int} {x:RgJ} (h:CrP i x) (hij:i≤j):CrP j x:=⟨h.1,Int.le_trans h.2 hij⟩
theorem G3 (m:Mdl) (hm:m.1.length≤1000000) (i:Int) (h0:0≤i) (h1:i<m.1.length) (hi:Nat) (out:List RgJ) (ho:hi≤out.length) (hb:hi≤i) (hp : ∀ x∈out.take hi,CrP i x) (k:cR (List RgJ)) (Q:List RgJ→Prop)
  (hk : ∀ (hi':Nat) (out':List RgJ),hi'≤hi+1→hi'≤out'.length→(∀ x∈out'.take hi',CrP (i+1) x)→Tot (k m hi' (i+1) out') Q) : ∀ (n:Nat) (t:Int),0≤t→t≤hi→hi-t<n→Tot (jm k n i m hi t out) Q
 | 0,t,a0,a1,a2=>by omega
 | n+1,t,a0,a1,a2=>by
  show Tot (lU false some (jm k n) k i m hi t out) _
  have hq:t<hi→(decide (0≤t)&&decide (t<(hi:Int)))=true:=fun h=>by simp; omega
  simp only [lU,dR,tt,ni,Nat.zero_add,List.nil_append]
  have e0:w64 (i+1)=i+1:=aI (by omega) (by omega)
  have e1:w64 (t+1)=t+1:=aI (by omega) (by omega)
  rw [e0,e1]
  refine ⟨aF fun h=>hq (by simpa using h),aF fun h=>hq (by simpa using h),by simp [aS],fun hc => ?_,fun _=>⟨aF fun h=>hq (by simpa using h),aF fun h => ?_,fun hc => ?_,fun _ => ?_⟩⟩
  ·have ht:t<hi:=by simp only [Bool.cond_false_right,Bool.and_eq_true,decide_eq_true_eq] at hc; exact hc.1
   exact G3 m hm i h0 h1 hi out ho hb hp k Q hk n (t+1) (by omega) (by omega) (by omega)
  ·have ht:t<hi:=by simp only [Bool.cond_false_right,Bool.and_eq_true,decide_eq_true_eq] at h; exact h.1
   exact hq ht
  ·have ht:t<hi:=by simp only [Bool.cond_false_right,Bool.and_eq_true,decide_eq_true_eq] at hc; exact hc.1.1
   have hlt:t.toNat<out.length:=by omega
   have eg:List.getD out t.toNat (zero aY)=out[t.toNat]:=by rw [List.getD_eq_getElem?_getD,List.getElem?_eq_getElem hlt]; rfl
   have hmem:out[t.toNat]∈out.take hi:=by
    rw [List.mem_take_iff_getElem]
    exact ⟨t.toNat,by omega,rfl⟩
   have hx:=hp _ hmem
   rw [eg]
   have hle:Nat.add (out[t.toNat].2.2.2.2.1) 1≤1000001:=(show ∀ q:Nat,(q:Int)≤i→Nat.add q 1≤1000001 from fun q hq=>by simp only [Nat.add_eq]; omega) _ hx.2
   refine ⟨hq ht,dP (Nat.le_trans hle (by decide)),hq ht,hk hi _ (by omega) (by simp; omega) fun x hxm => ?_⟩
   rw [List.take_set] at hxm
   rcases List.mem_or_eq_of_mem_set hxm with h | rfl
   ·exact (hp x h).mono (by omega)
   ·refine ⟨hx.1, ?_⟩
    exact (show ∀ q:Nat,(q:Int)≤i→((Nat.add q 1:Nat):Int)≤i+1 from fun q hq=>by simp only [Nat.add_eq]; omega) _ hx.2
  ·have e2:(out.take hi).length=hi:=by simp; omega
   have e3:(out.take t.toNat).length=t.toNat:=by simp; omega
   have e4 : ∀ z:RgJ,List.take (t.toNat+1) (out.take t.toNat++[z])=out.take t.toNat++[z]:=fun z=>List.take_of_length_le (by simp; omega)
   have hq2:(decide (0≤t)&&decide (t≤(hi:Int)))=true:=by simp; omega
   simp only [List.length_drop,e2,List.length_cons,List.length_nil,Nat.zero_add,e4]
   refine ⟨hq2,dP (by omega),hq2,dP (by omega),dP (by omega),hk _ _ (by omega) (by simp; omega) fun x hxm => ?_⟩
   have hxm:=List.mem_of_mem_take hxm
   rcases List.mem_append.1 hxm with h | h
   ·rcases List.mem_append.1 h with h | h
    ·refine (hp x ?_).mono (by omega)
     have:out.take t.toNat=(out.take hi).take t.toNat:=by rw [List.take_take]; congr 1; omega
     rw [this] at h
     exact List.mem_of_mem_take h
    ·rw [List.mem_singleton.1 h]
     exact ⟨rfl,by show ((1:Nat):Int)≤i+1; omega⟩
   ·exact (hp x (List.mem_of_mem_drop h)).mono (by omega)
theorem u4 (hi:Nat) (out:List RgJ) (ho:hi≤out.length) (hb:hi≤1000000) (hp : ∀ x∈out.take hi,x.1=2) : ∀ (n:Nat) (two:List RgJ) (i:Int),0≤i→i≤hi→two.length≤i→(∀ x∈two,x.1=2)→hi-i<n→Tot (gP n hi two i out) fun r=>r.length≤hi ∧ ∀ x∈r,x.1=2
 | 0,two,i,a0,a1,a2,a3,a4=>by omega
 | n+1,two,i,a0,a1,a2,a3,a4=>by
  show Tot (jo false some (gP n) hi two i out) _
  simp only [jo,eN,tt,ni,Nat.zero_add]
  rw [aI (n:=i+1) (by omega) (by omega)]
  refine ⟨fun hc => ?_,fun _=>⟨by omega,a3⟩⟩
  have hc:i<hi:=by simpa using hc
  have hq:(decide (0≤i)&&decide (i<(hi:Int)))=true:=by simp; omega
  have hlt:i.toNat<out.length:=by omega
  have eg:List.getD out i.toNat (zero aY)=out[i.toNat]:=by rw [List.getD_eq_getElem?_getD,List.getElem?_eq_getElem hlt]; rfl
  have hmem:out[i.toNat]∈out.take hi:=by
   rw [List.mem_take_iff_getElem]
   exact ⟨i.toNat,by omega,rfl⟩
  rw [eg]
  refine ⟨hq,fun _=>⟨hq,dP (by simp; omega),u4 hi out ho hb hp n _ (i+1) (by omega) (by omega) (by simp; omega) (fun x hx => ?_) (by omega)⟩,fun _=>u4 hi out ho hb hp n two (i+1) (by omega) (by omega) (by omega) a3 (by omega)⟩
  rcases List.mem_append.1 hx with hx | hx
  ·exact a3 x hx
  ·rw [List.mem_singleton.1 hx]; exact hp _ hmem
theorem y8 (m:Mdl) (hm:m.1.length≤1000000) : ∀ (n:Nat) (hi:Nat) (i:Int) (out:List RgJ),0≤i→i≤m.1.length→hi≤i→hi≤out.length→(∀ x∈out.take hi,CrP i x)→m.1.length-i<n→Tot (jn n m hi i out) fun r=>r.length≤m.1.length ∧ ∀ x∈r,x.1=2
 | 0,hi,i,out,a0,a1,a2,a3,a4,a5=>by omega
 | n+1,hi,i,out,a0,a1,a2,a3,a4,a5=>by
  show Tot (lV false some (jn n) (jm (jn n) FU) (gP FU) m hi i out) _
  simp only [lV,dR,tt,il]
  rw [aI (n:=i+1) (by omega) (by omega)]
  refine ⟨fun hc => ?_,fun _=>(u4 hi out a3 (by omega) (fun x hx=>(a4 x hx).1) FU [] 0 (by omega) (by omega) (by simp) (fun x hx=>by cases hx) (by rw [bF]; omega)).mono fun r hr=>⟨by have:=hr.1; omega,hr.2⟩⟩
  have hc:i<m.1.length:=by simpa using hc
  refine ⟨aX a0 hc,fun _=>y8 m hm n hi (i+1) out (by omega) (by omega) (by omega) a3 (fun x hx=>(a4 x hx).mono (by omega)) (by omega),fun _ => ?_⟩
  exact G3 m hm i a0 hc hi out a3 a2 a4 _ _ (fun hi' out' b1 b2 b3=>y8 m hm n hi' (i+1) out' (by omega) (by omega) (by omega) b2 b3 (by omega)) FU 0 (by omega) (by omega) (by rw [bF]; omega)
theorem Oo (m:Mdl) (hm:m.1.length≤1000000):Tot (lW m) fun r=>r.length≤m.1.length ∧ ∀ x∈r,x.1=2:=by
 simp only [lW,tE]
 exact y8 m hm FU 0 0 [] (by omega) (by omega) (by omega) (by simp) (fun x hx=>by simp at hx) (by rw [bF]; omega)
theorem vw (a:Alt) (r:List Alt) (hl:(a::r).length≤1000000) : ∀ (n:Nat) (s p:List Alt),r=p++s→s.length<n→my n (a::r) ((p.length:Int)+1)=some (s.any fun b => !eqD ap b.2.1 a.2.1)
 | 0,s,p,_,h=>by omega
 | n+1,s,p,e,h=>by
  show kJ false some (my n) (a::r) ((p.length:Int)+1)=_
  simp only [kJ,s2,il]
  subst e
  have e0:ix aK (a::(p++s)) 0=a:=bQ (t:=aK) [] a (p++s)
  simp only [List.length_cons,List.length_append] at hl
  cases s with
  | nil =>
   have:decide (((p.length:Int)+1)<((a::(p++[])).length:Int))=false:=df (by simp)
   rw [this]; rfl
  | cons b s =>
   simp only [List.length_cons] at hl h
   have e1:ix aK (a::(p++b::s)) ((p.length:Int)+1)=b:=by
    have e2:=bQ (t:=aK) (a::p) b s
    rw [List.length_cons,List.cons_append] at e2
    exact e2
   have next:=vw a (p++b::s) (by simp; omega) n s (p++[b]) (by simp) (by omega)
   have ew:w64 ((p.length:Int)+1+1)=((p++[b]).length:Int)+1:=by rw [aI (by omega) (by omega)]; simp
   rw [e0,e1,ew,next]
   have c1:decide (((p.length:Int)+1)<((a::(p++b::s)).length:Int))=true:=dt (by simp; omega)
   rw [c1,aX (by omega) (by simp; omega),aX (by omega) (by simp; omega)]
   simp only [ck,cond_true,List.any_cons]
   cases eqD ap b.2.1 a.2.1 <;> rfl
theorem Pn (l:List Alt) (hl:l.length≤1000000):kK l=some (eh l):=by
 simp only [kK,sn]
 cases l with
 | nil=>rfl
 | cons a r=>exact vw a r hl FU r [] rfl (by rw [bF]; simp at hl; omega)
def dx (s:Sta):List RgJ:=(s.1.filter (fun x=>eh x.2.2.1)).map (fun x=>(1,x.1,x.2.1,x.2.2.1,(0:Nat),()))
theorem F9 {s:Sta} (h:St1 s) (hl:s.1.length≤500000) : ∀ (n:Nat) (r p:List Slt) (out:List RgJ),s.1=p++r→r.length<n→out=dx (p,())→Tot (v8 n s out p.length) fun q => ∃ cr,q=dx s++cr∧(∀ x∈cr,x.1=2)∧cr.length≤s.1.length
 | 0,r,p,out,_,h,_=>by omega
 | n+1,r,p,out,e,hn,eo=>by
  show Tot (wa false some (v8 n) s out p.length) _
  have hlen:out.length≤p.length:=by
   rw [eo]; simp only [dx,List.length_map]; exact List.length_filter_le ..
  have hpl:p.length+r.length=s.1.length:=by rw [e]; simp
  simp only [wa,wb,tt,il]
  rw [aI (n:=(p.length:Int)+1) (by omega) (by omega)]
  cases r with
  | nil =>
   have es:s=(p,()):=by obtain ⟨a,u⟩:=s; simp at e; rw [e]
   have hml:=oq s
   refine ⟨fun hc=>by simp at hc; simp at hpl; omega,fun _=>⟨h.stg,(Oo (bJ s) (by omega)).mono fun cr hcr=>⟨dP (by have:=hcr.1; omega),cr,by rw [eo,es],hcr.2,by have:=hcr.1; omega⟩⟩⟩
  | cons c r =>
   have hc:c∈s.1:=by rw [e]; simp
   have ec:ix ak s.1 (p.length:Int)=c:=by rw [e]; exact bQ (t:=ak) p c r
   have next:=F9 h hl n r (p++[c]) (dx (p++[c],())) (by rw [e]; simp) (by simp at hn; omega) rfl
   have eadd:dx (p++[c],())=dx (p,())++(if eh c.2.2.1 then [(1,c.1,c.2.1,c.2.2.1,(0:Nat),())] else []):=by
    cases hd:eh c.2.2.1 <;> simp [dx,hd]
   rw [ec]
   simp only [List.length_cons] at hpl
   have hal:=(h.alts c hc).2
   have ep:((p++[c]).length:Int)=(p.length:Int)+1:=by simp
   rw [ep] at next
   refine ⟨fun _=>⟨aX (by omega) (by omega),_,Pn _ (by omega),fun hd=>⟨dP (by simp; omega), ?_⟩,fun hd => ?_⟩,fun hc => ?_⟩
   ·rw [eadd,hd, ← eo] at next; exact next
   ·rw [eadd,hd, ← eo] at next; simpa using next
   ·have : ¬ (p.length:Int)<s.1.length:=by simpa using hc
    omega
theorem Yf {s:Sta} (h:St1 s) (hl:s.1.length≤500000):Tot (wc s) fun q => ∃ cr,q=dx s++cr∧(∀ x∈cr,x.1=2)∧cr.length≤s.1.length:=by
 simp only [wc,Id]
 exact F9 h hl FU s.1 [] [] rfl (by rw [bF]; omega) rfl
end Go.Proofs.YtboikinjlmjgjaaGreat.Abs
