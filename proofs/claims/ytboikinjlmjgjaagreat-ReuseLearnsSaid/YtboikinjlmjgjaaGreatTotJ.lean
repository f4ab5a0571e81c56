/- Evaluators that always answer: a further commit, a history. -/
import Derived.Test.YtboikinjlmjgjaaGreatTotG
namespace Go.Proofs.YtboikinjlmjgjaaGreat.Abs
open Go
theorem Ce (l:List Cel) (hs:l.length<1000000) (k:cP (List Cel)) (i:Int) (h0:0≤i) (h1:i<l.length) (hi:Nat) (out:List Cel) (ho:hi≤out.length) (hb:hi<1000000) (hm : ∀ c∈out.take hi,c∈l) (Q:List Cel→Prop)
  (hk : ∀ (hi':Nat) (out':List Cel),hi'≤hi+1→hi'≤out'.length→(∀ c∈out'.take hi',c∈l)→Tot (k l hi' (i+1) out') Q) : ∀ (n:Nat) (t:Int),0≤t→t≤hi→t<n→Tot (iO k n l i hi t out) Q
 | 0,t,h2,h3,h=>by omega
 | n+1,t,h2,h3,h=>by
  show Tot (kS false some (iO k n) k l i hi t out) _
  have key : ∀ j:Int,t≤j→j≤hi→Tot (eB false some k l i t hi j out) Q:=fun j hj1 hj2=>by
   simp only [eB,kU,tt,Nat.zero_add,List.nil_append]
   rw [aI (n:=i+1) (by omega) (by omega)]
   have e1:(out.take hi).length=hi:=by simp; omega
   have e2:(out.take t.toNat).length=t.toNat:=by simp; omega
   have e3:List.take (t.toNat+1) (out.take t.toNat++[ix ac l i])=out.take t.toNat++[ix ac l i]:=List.take_of_length_le (by simp; omega)
   simp only [List.length_drop,e1,List.length_cons,List.length_nil,Nat.zero_add,e3,ni]
   refine ⟨by simp; omega,dP (by omega),by simp; omega,aX h0 h1,dP (by omega),dP (by omega),hk _ _ (by omega) (by simp; omega) fun c hc => ?_⟩
   have hc:=List.mem_of_mem_take hc
   rcases List.mem_append.1 hc with hc | hc
   ·rcases List.mem_append.1 hc with hc | hc
    ·refine hm c ?_
     have:out.take t.toNat=(out.take hi).take t.toNat:=by rw [List.take_take]; congr 1; omega
     rw [this] at hc
     exact List.mem_of_mem_take hc
    ·rw [List.mem_singleton.1 hc]; exact fM h0 h1
   ·exact hm c (List.mem_of_mem_drop hc)
  have hp:t>0→(decide (0≤w64 (t-1))&&decide (w64 (t-1)<(hi:Int)))=true:=fun h=>by
   rw [aI (by omega) (by omega)]; simp; omega
  simp only [kS,tt,ni]
  refine ⟨aF fun h=>hp (by simpa using h),aF fun h=>hp (by simpa using h),aF fun _=>aX h0 h1,aF fun _=>aX h0 h1,by simp [aS],fun hc => ?_,fun _=>⟨aF fun h=>by simp at h; simp; omega,aF fun _=>aX h0 h1,aF fun h => ?_,aF fun _=>aX h0 h1,fun hc => ?_,fun _=>key t (by omega) h3⟩⟩
  ·have ht:t>0:=by simp only [Bool.cond_false_right,Bool.and_eq_true,decide_eq_true_eq] at hc; exact hc.1
   rw [aI (by omega) (by omega)]
   exact Ce l hs k i h0 h1 hi out ho hb hm Q hk n (t-1) (by omega) (by omega) (by omega)
  ·simp only [Bool.cond_false_right,Bool.and_eq_true,decide_eq_true_eq] at h; simp; omega
  ·have ht:t<hi:=by simp only [Bool.cond_false_right,Bool.and_eq_true,decide_eq_true_eq] at hc; exact hc.1.1
   rw [aI (by omega) (by omega)]
   exact key (t+1) (by omega) (by omega)
theorem Cf (l:List Cel) (hs:l.length<1000000) : ∀ (n:Nat) (hi:Nat) (i:Int) (out:List Cel),0≤i→i≤l.length→hi≤i→hi≤out.length→(∀ c∈out.take hi,c∈l)→l.length-i<n→Tot (mE n l hi i out) fun r=>r.length≤l.length ∧ ∀ c∈r,c∈l
 | 0,hi,i,out,h0,h1,h2,h3,h4,h=>by omega
 | n+1,hi,i,out,h0,h1,h2,h3,h4,h=>by
  show Tot (kT false some (iO (mE n) FU) l hi i out) _
  simp only [kT,tt,il,ni,List.drop_zero]
  refine ⟨fun hi' => ?_,fun _=>⟨by simp; omega,h4⟩⟩
  have hi':i<l.length:=by simpa using hi'
  exact Ce l hs _ i h0 hi' hi out h3 (by omega) h4 _ (fun hi2 out2 a1 a2 a3=>Cf l hs n hi2 (i+1) out2 (by omega) (by omega) (by omega) a2 a3 (by omega)) FU hi (by omega) (by omega) (by rw [bF]; omega)
theorem L5 (l:List Cel) (hs:l.length<1000000):Tot (kV l) fun r=>r.length≤l.length ∧ ∀ c∈r,c∈l:=by
 simp only [kV,sy]
 exact Cf l hs FU 0 0 [] (by omega) (by omega) (by omega) (by simp) (fun c hc=>by simp at hc) (by rw [bF]; omega)
theorem K1 (m:Mdl) (hm:m.1.length≤60000) (id:Int) (r1:List Int) (i:Int) (h0:0≤i) (h1:i<12) (r2:List Cel) (hr:r2.length≤m.1.length) (hi : ∀ c∈r2,c∈m.1) (k:ju (List Cel)) (Q:List Cel→Prop) (hk : ∀ out:List Cel,out.length≤(i+1) * 60000→(∀ c∈out,c∈m.1)→Tot (k id r1 m out (i+1)) Q) :
  ∀ (n:Nat) (out:List Cel) (t:Int),0≤t→t≤r2.length→out.length≤i * 60000+t→(∀ c∈out,c∈m.1)→r2.length-t<n→Tot (rN k n id r1 i r2 m out t) Q
 | 0,out,t,a0,a1,a2,a3,a4=>by omega
 | n+1,out,t,a0,a1,a2,a3,a4=>by
  show Tot (xV false some (rN k n) k id r1 i r2 m out t) _
  simp only [xV,tN,tt,il]
  rw [aI (n:=t+1) (by omega) (by omega),aI (n:=i+1) (by omega) (by omega)]
  refine ⟨fun h => ?_,fun _=>hk out (by omega) a3⟩
  have h:t<r2.length:=by simpa using h
  refine ⟨aX a0 h,fun _=>⟨aX a0 h,dP (by simp; omega),K1 m hm id r1 i h0 h1 r2 hr hi k Q hk n _ (t+1) (by omega) (by omega) (by simp; omega) (fun c hc => ?_) (by omega)⟩,fun _=>K1 m hm id r1 i h0 h1 r2 hr hi k Q hk n _ (t+1) (by omega) (by omega) (by omega) a3 (by omega)⟩
  rcases List.mem_append.1 hc with hc | hc
  ·exact a3 c hc
  ·rw [List.mem_singleton.1 hc]; exact hi _ (fM a0 h)
theorem Uv (m:Mdl) (hm:m.1.length≤60000) (id:Int) (r1:List Int) : ∀ (n:Nat) (out:List Cel) (i:Int),0≤i→i≤12→out.length≤i * 60000→(∀ c∈out,c∈m.1)→12-i<n→Tot (xW n id r1 m out i) fun r=>r.length≤720000 ∧ ∀ c∈r,c∈m.1
 | 0,out,i,h0,h1,h2,h3,h=>by omega
 | n+1,out,i,h0,h1,h2,h3,h=>by
  show Tot (xX false some (rN (xW n) FU) id r1 m out i) _
  simp only [xX,tt,il]
  refine ⟨fun hc => ?_,fun _=>⟨by omega,h3⟩⟩
  have hc:i<(([id]++r1).length:Int)∧i<12:=by
   simp only [Bool.cond_false_right,Bool.and_eq_true,decide_eq_true_eq] at hc; exact hc
  refine ⟨aX h0 hc.1,(adG m.1 _ (by omega)).mono fun r2 hr => ?_⟩
  exact K1 m hm id r1 i h0 hc.2 r2 hr.1 hr.2 _ _ (fun out ho hi=>Uv m hm id r1 n out (i+1) (by omega) (by omega) ho hi (by omega)) FU out 0 (by omega) (by omega) (by omega) h3 (by rw [bF]; omega)
theorem acp (m:Mdl) (hm:m.1.length≤60000) (hx : ∀ c∈m.1,TxC c) (id:Int):Tot (na m id) fun r=>r.length≤720000 ∧ ∀ c∈r,c∈m.1:=by
 simp only [na,K0,tt]
 exact (OL m (by omega) hx id).mono fun r1 hr=>⟨dP (by simp; omega),Uv m hm id r1 FU [] 0 (by omega) (by omega) (by simp) (fun c hc=>by cases hc) (by rw [bF]; omega)⟩
theorem qI (Pr:Int→Int→Prop) (hi:Nat) (hh:hi<1000000) : ∀ (n:Nat) (i:Int) (out:List Cel),0≤i→i≤hi→out.length=hi→(∀ c∈out,TxC c∧Pr c.1 c.2.1)→hi-i<n→Tot (jJ n hi i out) fun r=>r.length≤hi ∧ ∀ c∈r,TxC c∧Pr c.1 c.2.1
 | 0,i,out,h0,h1,h2,h3,h=>by omega
 | n+1,i,out,h0,h1,h2,h3,h=>by
  show Tot (iR false some (jJ n) hi i out) _
  simp only [iR,iS,tt,ni,Nat.zero_add,List.drop_zero]
  rw [aI (n:=i+1) (by omega) (by omega)]
  refine ⟨fun hc => ?_,fun _=>⟨by simp; omega,fun c hc=>h3 c (List.mem_of_mem_take hc)⟩⟩
  have hc:i<hi:=by simpa using hc
  have hq:(decide (0≤i)&&decide (i<(hi:Int)))=true:=by simp; omega
  refine ⟨hq,fun _=>⟨hq,qI Pr hi hh n (i+1) _ (by omega) (by omega) (by simp; omega) (fun c hc => ?_) (by omega)⟩,fun _=>qI Pr hi hh n (i+1) _ (by omega) (by omega) h2 h3 (by omega)⟩
  rcases List.mem_or_eq_of_mem_set hc with hc | rfl
  ·exact h3 c hc
  ·have hmem:out.getD i.toNat (zero ac)∈out:=by
    rw [List.getD_eq_getElem?_getD,List.getElem?_eq_getElem (by omega)]; exact List.getElem_mem _
   exact ⟨Xi,(h3 _ hmem).2⟩
theorem HZ (Pr:Int→Int→Prop) (l:List Cel) (hs:l.length<1000000) (h : ∀ c∈l,TxC c∧Pr c.1 c.2.1):Tot (eG l) fun r=>r.length≤l.length ∧ ∀ c∈r,TxC c∧Pr c.1 c.2.1:=by
 simp only [eG,pr,tt,Nat.zero_add,List.take_nil,List.nil_append]
 exact ⟨dP (by omega),qI Pr l.length hs FU 0 l (by omega) (by omega) rfl h (by rw [bF]; omega)⟩
def cv (x:Int):Int:=x.fdiv 1048576
theorem XY (x:Int):Vg .i64 x 20=cv x:=rfl
theorem vO {x s:Int}:cv x=s↔s * 1048576≤x∧x<(s+1) * 1048576:=by
 unfold cv
 rw [Int.fdiv_eq_ediv_of_nonneg _ (by omega)]
 omega
theorem Qy (x y:Int):x≤ov x y∧y≤ov x y∧(ov x y=x∨ov x y=y):=by
 unfold ov; split <;> omega
theorem C4 (l:List Com) (s:Int) (hl:l.length≤100) (P:List Com) (c:Com) (R:List Com) (hT:l=P++c::R) (hw:(ws c).length<1000000) (x0:Int) (k:dC Int) (Q:Int→Prop) (hk : ∀ x,cv x=s→x0≤x→Tot (k l s x ((P.length:Int)+1)) Q) : ∀ (n:Nat) (x t:Int),cv x=s→x0≤x→0≤t→t≤(ws c).length→(ws c).length-t<n→Tot (kg k n l s P.length x t) Q
 | 0,x,t,a0,a1,a2,a3,h=>by omega
 | n+1,x,t,a0,a1,a2,a3,h=>by
  show Tot (qU false some (kg k n) k l s P.length x t) _
  have hPi:(P.length:Int)<l.length:=by rw [hT]; simp; omega
  have ec:ix ae l (P.length:Int)=c:=by rw [hT]; exact bQ (t:=ae) P c R
  simp only [qU,ol,qW,tt,il,XY]
  rw [ec,aI (n:=t+1) (by omega) (by omega),aI (n:=(P.length:Int)+1) (by omega) (by omega)]
  show bd _ _=true∧(decide (t<((ws c).length:Int))=true→bd _ _=true∧bd t (ws c).length=true∧_∧(decide (cv (ix ac (ws c) t).1=s)=true→bd _ _=true∧bd t (ws c).length=true∧_)∧_)∧_
  refine ⟨aX (by omega) hPi,fun ht => ?_,fun _=>hk x a0 a1⟩
  have ht:t<(ws c).length:=by simpa using ht
  refine ⟨aX (by omega) hPi,aX a2 ht,by decide,fun hq=>⟨aX (by omega) hPi,aX a2 ht, ?_⟩,fun _=>C4 l s hl P c R hT hw x0 k Q hk n x (t+1) a0 a1 (by omega) (by omega) (by omega)⟩
  have hq:cv (ix ac (ws c) t).1=s:=by simpa using hq
  have hm:=Qy x (ix ac (ws c) t).1
  refine C4 l s hl P c R hT hw x0 k Q hk n (ov x (ix ac (ws c) t).1) (t+1) ?_ (Int.le_trans a1 hm.1) (by omega) (by omega) (by omega)
  rcases hm.2.2 with e | e
  ·rw [e]; exact a0
  ·rw [e]; exact hq
theorem M4 (l:List Com) (s:Int) (hl:l.length≤100) (hw : ∀ c∈l,(ws c).length<1000000) : ∀ (n:Nat) (R P:List Com) (x:Int),l=P++R→R.length<n→cv x=s→(∀ c∈P,cv c.1=s→c.1≤x)→Tot (oh n l s x P.length) fun r=>cv r=s ∧ ∀ c∈l,cv c.1=s→c.1≤r
 | 0,R,P,x,h1,h2,h3,h4=>by omega
 | n+1,R,P,x,h1,h2,h3,h4=>by
  show Tot (qV false some (kg (oh n) FU) l s x P.length) _
  simp only [qV,om,tt,il,XY]
  cases R with
  | nil =>
   have e:l=P:=by simpa using h1
   subst e
   exact ⟨fun h=>by simp at h,fun _=>⟨h3,h4⟩⟩
  | cons c R =>
   have hPi:(P.length:Int)<l.length:=by rw [h1]; simp; omega
   have ec:ix ae l (P.length:Int)=c:=by rw [h1]; exact bQ (t:=ae) P c R
   rw [ec]
   have go : ∀ x',cv x'=s→x≤x'→(cv c.1=s→c.1≤x')→Tot (kg (oh n) FU l s P.length x' 0) fun r=>cv r=s ∧ ∀ c∈l,cv c.1=s→c.1≤r:=fun x' b1 b2 b3=>by
    refine C4 l s hl P c R h1 (hw c (by rw [h1]; simp)) x' _ _ (fun y hy hy2 => ?_) FU x' 0 b1 (Int.le_refl _) (by omega) (by omega) (by rw [bF]; have:=hw c (by rw [h1]; simp); omega)
    have:=M4 l s hl hw n R (P++[c]) y (by rw [h1]; simp) (by simp at h2; omega) hy fun d hd hs => ?_
    ·simpa using this
    ·rcases List.mem_append.1 hd with hd | hd
     ·exact Int.le_trans (h4 d hd hs) (Int.le_trans b2 hy2)
     ·rw [List.mem_singleton.1 hd] at hs ⊢
      exact Int.le_trans (b3 hs) hy2
   refine ⟨fun _=>⟨aX (by omega) hPi,by decide,fun hq=>⟨aX (by omega) hPi, ?_⟩,fun hq=>go x h3 (Int.le_refl _) fun e=>by simp [e] at hq⟩,fun h=>by simp at h; omega⟩
   have hq:cv c.1=s:=of_decide_eq_true hq
   have hm:=Qy x c.1
   refine go (ov x c.1) ?_ hm.1 fun _=>hm.2.1
   rcases hm.2.2 with e | e
   ·rw [e]; exact h3
   ·rw [e]; exact hq
theorem Gs (l:List Com) (s:Int) (h1:1≤s) (h2:s≤3) (hl:l.length≤100) (hw : ∀ c∈l,(ws c).length<1000000):Tot (oo l s) fun r=>cv r=s ∧ ∀ c∈l,cv c.1=s→c.1≤r:=by
 simp only [oo,Bb,tt]
 have e:XZ .i64 s 20=s * 1048576:=by
  show w64 (s * 1048576)=_
  exact aI (by omega) (by omega)
 rw [e]
 exact ⟨by decide,M4 l s hl hw FU l [] (s * 1048576) rfl (by rw [bF]; omega) (vO.2 (by omega)) fun c hc=>by cases hc⟩
theorem wZ (l:List Com) (c:Com) (hl:l.length≤100) : ∀ (n:Nat) (R P:List Com),l=P++R→R.length<n→(∀ d∈P,d.1<c.1)→Tot (mU n l c P.length) fun r => ∃ P R,l=P++R∧r=P++c::R∧(∀ d∈P,d.1<c.1) ∧ ∀ d R',R=d::R' → ¬ d.1<c.1
 | 0,R,P,h1,h2,h3=>by omega
 | n+1,R,P,h1,h2,h3=>by
  show Tot (lu false some (mU n) l c P.length) _
  have hPl:P.length+R.length=l.length:=by rw [h1]; simp
  simp only [lu,tt,il,List.drop_zero,List.nil_append,List.take_length]
  rw [aI (n:=(P.length:Int)+1) (by omega) (by omega)]
  refine ⟨aF fun h=>aX (by omega) (by simpa using h),fun hc => ?_,fun hc => ?_⟩
  ·simp only [Bool.cond_false_right,Bool.and_eq_true,decide_eq_true_eq] at hc
   cases R with
   | nil=>simp at hPl; omega
   | cons d R =>
    have ec:ix ae l (P.length:Int)=d:=by rw [h1]; exact bQ (t:=ae) P d R
    rw [ec] at hc
    have:=wZ l c hl n R (P++[d]) (by rw [h1]; simp) (by simp at h2; omega) fun e he=>by
     rcases List.mem_append.1 he with he | he
     ·exact h3 e he
     ·rw [List.mem_singleton.1 he]; exact hc.2
    simpa using this
  ·have e1:l.take P.length=P:=by rw [h1]; simp
   have e2:l.drop P.length=R:=by rw [h1]; simp
   have hq:(decide (0≤(P.length:Int))&&decide ((P.length:Int)≤(l.length:Int)))=true:=by simp; omega
   simp only [Int.toNat_natCast,e1,e2]
   refine ⟨hq,dP (by simp; omega),dP (by simp; omega),hq,dP (by simp; omega),P,R,h1,by simp,h3,fun d R' e => ?_⟩
   subst e
   have ec:ix ae l (P.length:Int)=d:=by rw [h1]; exact bQ (t:=ae) P d R'
   rw [ec] at hc
   have hlt:(P.length:Int)<l.length:=by simp at hPl; omega
   simpa [hlt] using hc
theorem Ns (l:List Com) (c:Com) (hl:l.length≤100):Tot (lx l c) fun r => ∃ P R,l=P++R∧r=P++c::R∧(∀ d∈P,d.1<c.1) ∧ ∀ d R',R=d::R' → ¬ d.1<c.1:=by
 simp only [lx,sZ]
 exact wZ l c hl FU l [] rfl (by rw [bF]; omega) fun d hd=>by cases hd
end Go.Proofs.YtboikinjlmjgjaaGreat.Abs
namespace Go.Proofs.YtboikinjlmjgjaaGreat.Abs
open Go
def alS (s:Sta) (ex:List (Int×Int)) (c:Cel):Prop:=TxC c∧((∃ x∈s.1,x.1=c.1∧x.2.1=c.2.1)∨(c.1,c.2.1)∈ex)
def WP (s:Sta) (w:List Cel):Prop:=w.length<1000000 ∧ ∃ ex:List (Int×Int),ex.length≤11 ∧ ∀ c∈w,alS s ex c
theorem up {s:Sta} (w:List Cel) (h:w.length≤11) (ht : ∀ c∈w,TxC c):WP s ([]++w) :=
 ⟨by simp; omega,w.map fun c=>(c.1,c.2.1),by simp; omega,fun c hc=>by
  have hc:c∈w:=by simpa using hc
  exact ⟨ht c hc,.inr (List.mem_map.2 ⟨c,hc,rfl⟩)⟩⟩
theorem acP {s:Sta} (r w:List Cel) (hr:r.length≤720000) (hi : ∀ c∈r,TxC c ∧ ∃ x∈s.1,x.1=c.1∧x.2.1=c.2.1) (h:w.length≤11) (ht : ∀ c∈w,TxC c):WP s (([]++r)++w) :=
 ⟨by simp; omega,w.map fun c=>(c.1,c.2.1),by simp; omega,fun c hc=>by
  rcases List.mem_append.1 hc with hc | hc
  ·have hc:c∈r:=by simpa using hc
   exact ⟨(hi c hc).1,.inl (hi c hc).2⟩
  ·exact ⟨ht c hc,.inr (List.mem_map.2 ⟨c,hc,rfl⟩)⟩⟩
theorem O7 {s:Sta} (r:List Cel) (hr:r.length≤720000) (hi : ∀ c∈r,TxC c ∧ ∃ x∈s.1,x.1=c.1∧x.2.1=c.2.1):WP s r :=
 ⟨by omega,[],by simp,fun c hc=>⟨(hi c hc).1,.inl (hi c hc).2⟩⟩
theorem cV {s:Sta} {w:List Cel} (h:WP s w):Tot (dK w) (WP s):=by
 simp only [dK,mj,tt]
 obtain ⟨h1,ex,h2,h3⟩:=h
 exact (L5 w h1).mono fun r hr=>⟨by omega,ex,h2,fun c hc=>h3 c (hr.2 c hc)⟩
theorem tx1 {id f:Int} {v:Val} (h:TxV v) : ∀ c∈[(id,f,v,())],TxC c:=fun c hc=>by rw [List.mem_singleton.1 hc]; exact h
theorem BP {s:Sta} (id t a b c d:Int):Tot (dL id t a b c d) (WP s):=by
 simp only [dL,mn,tt]
 exact (se _ _).mono fun r hr=>⟨dP (by simp),cV (up _ (by simp) (tx1 hr))⟩
theorem BO {s:Sta} (id a:Int) (b:Bool) (t:Str) (ht:Sh t) (c:Int):Tot (gp id a b t c) (WP s):=by
 simp only [gp,ml,tt]
 exact ⟨dP (by simp),cV (up _ (by simp) (tx1 ht))⟩
theorem O4 {s:Sta} (h:St1 s) (hs:s.1.length≤60000) (last:Int) (r2 r3 r4:List Int) (h2:r2.length≤60000) (h3:r3.length≤60000) (h4:r4.length≤60000) (r5:Int) (t:Bool) (a b c d:Int):Tot (gq last r2 r3 r4 r5 t s.1 a b c d (bJ s).1) (WP s):=by
 have hm:=YP h
 have hal : ∀ id,Tot (na ((bJ s).1,()) id) fun r=>r.length≤720000 ∧ ∀ c∈r,TxC c ∧ ∃ x∈s.1,x.1=c.1∧x.2.1=c.2.1:=fun id=>(acp (bJ s) (by omega) (fun c hc=>(hm.1 c hc).1) id).mono fun r hr=>⟨hr.1,fun c hc=>hm.1 c (hr.2 c hc)⟩
 have hre : ∀ r:List Cel,r.length≤720000→(∀ c∈r,TxC c ∧ ∃ x∈s.1,x.1=c.1∧x.2.1=c.2.1)→Tot (eG r) fun r=>r.length≤720000 ∧ ∀ c∈r,TxC c ∧ ∃ x∈s.1,x.1=c.1∧x.2.1=c.2.1:=fun r h1 h2=>(HZ (fun a b => ∃ x∈s.1,x.1=a∧x.2.1=b) r (by omega) h2).mono fun q hq=>⟨by omega,hq.2⟩
 have rd : ∀ id f,Tot (fp (s.1,()) id f) TxV:=fun id f=>Vm h id f
 have en : ∀ k,Tot (bw (s.1,()) k) fun r=>r.length≤60000:=fun k=>(d7 h k).mono fun r hr=>by omega
 have si : ∀ v x,Tot (eD v (s.1,()) x) TxV:=fun v x=>Mc v h x
 have pk : ∀ (l:List Int) x,l.length≤120000→Tot (bK l x) fun _=>True:=fun l x hl=>(ke l x (by omega)).mono fun _ _=>trivial
 simp only [gq,mm,tt]
 refine ⟨fun _ => ?_,fun _=>⟨fun _ => ?_,fun _=>⟨fun _ => ?_,fun _=>⟨fun _ => ?_,fun _=>⟨fun _ => ?_,fun _=>⟨fun _ => ?_,fun _=>⟨fun _ => ?_,fun _=>⟨fun _ => ?_,fun _=>⟨fun _ => ?_,fun _ => ?_⟩⟩⟩⟩⟩⟩⟩⟩⟩
 ·exact (pk _ _ (by omega)).mono fun r _=>(rd _ _).mono fun v _=>(si _ _).mono fun v hv=>⟨dP (by simp),cV (up _ (by simp) (tx1 hv))⟩
 ·exact (pk _ _ (by omega)).mono fun r _=>(cA _ 3 (by omega) (by omega)).mono fun _ _=>⟨by decide,(LQ _).mono fun v hv=>⟨dP (by simp),cV (up _ (by simp) (tx1 hv))⟩⟩
 ·exact (pk _ _ (by omega)).mono fun r _=>(en _).mono fun e he=>(pk _ _ (by omega)).mono fun _ _=>⟨by decide,(Df _).mono fun v hv=>⟨dP (by simp),cV (up _ (by simp) (tx1 hv))⟩⟩
 ·exact (pk _ _ (by omega)).mono fun r _=>(pk _ _ (by omega)).mono fun _ _=>(rd _ _).mono fun v hv=>⟨dP (by simp),cV (up _ (by simp) (tx1 hv))⟩
 ·refine (pk _ _ (by omega)).mono fun r _=>(rd _ _).mono fun v hv=>(hal _).mono fun q hq=>(hre q hq.1 hq.2).mono fun q hq=>⟨dP (by simp; omega),(rd _ _).mono fun v2 _=>(si _ _).mono fun v3 hv3=>⟨dP (by simp; omega),cV (acP q _ hq.1 hq.2 (by simp) ?_)⟩⟩
  intro c hc
  simp only [List.mem_cons,List.not_mem_nil,or_false] at hc
  rcases hc with rfl | rfl | rfl
  ·simp [TxC,TxV]
  ·exact hv
  ·exact hv3
 ·refine (en _).mono fun e he=>(pk _ _ (by omega)).mono fun _ _=>(Df _).mono fun k hk=>(se _ _).mono fun wd hwd=>⟨by decide,(si _ _).mono fun v hv=>⟨dP (by simp),cV (up _ (by simp) ?_)⟩⟩
  intro c hc
  simp only [List.mem_cons,List.not_mem_nil,or_false] at hc
  rcases hc with rfl | rfl | rfl | rfl | rfl | rfl | rfl | rfl | rfl | rfl | rfl
  all_goals first | exact hv | exact hk | exact hwd | simp [TxC,TxV]
 ·exact (en _).mono fun e he=>⟨dP (by omega),(pk _ _ (by simp; omega)).mono fun r _=>(hal _).mono fun q hq=>(hre q hq.1 hq.2).mono fun q hq=>cV (O7 q hq.1 hq.2)⟩
 ·exact (en _).mono fun e he=>(pk _ _ (by omega)).mono fun r _=>(rd _ _).mono fun v hv=>⟨fun _=>(Df _).mono fun k hk=>BO _ _ _ _ hk _,fun _=>BO _ _ _ _ hv _⟩
 ·exact (pk _ _ (by omega)).mono fun r _=>(hal _).mono fun q hq=>cV (O7 q hq.1 hq.2)
 ·exact cV (O7 [] (by simp) fun c hc=>by cases hc)
theorem Lk {s:Sta} (h:St1 s) (hs:s.1.length≤60000) (d:bB.den) (last:Int):Tot (kz s d last) (WP s):=by
 have en : ∀ k,Tot (bw s k) fun r=>r.length≤60000:=fun k=>(d7 h k).mono fun r hr=>by omega
 have pk : ∀ (l:List Int) x,l.length≤60000→Tot (bK l x) fun _=>True:=fun l x hl=>(ke l x (by omega)).mono fun _ _=>trivial
 simp only [kz,sa,mi,oX,tt]
 refine ⟨h.stg,(en _).mono fun r2 h2=>(en _).mono fun r3 h3=>(en _).mono fun r4 h4=>(cA _ 13 (by omega) (by omega)).mono fun r5 _ => ?_⟩
 have key : ∀ t:Bool,(t=true→Tot (bK r2 d.2.2.1) fun r=>Tot (fu (s.1,()) r) fun r_1=>((bif (decide (r_1=5)) then true else (decide (r_1=0)))=true→Tot (bK r4 d.2.2.1) fun r=>Tot (dL r 2 d.1 d.2.1 d.2.2.1 d.2.2.2.1) (WP s))∧((bif (decide (r_1=5)) then true else (decide (r_1=0)))=false→Tot (dL r r_1 d.1 d.2.1 d.2.2.1 d.2.2.2.1) (WP s))):=fun _ _=>(pk _ _ h2).mono fun r _=>(sV s r (h.place r 1)).mono fun k _=>⟨fun _=>(pk _ _ h4).mono fun r _=>BP _ _ _ _ _ _,fun _=>BP _ _ _ _ _ _⟩
 have r17:=fun t=>O4 h hs last r2 r3 r4 h2 h3 h4 r5 t d.1 d.2.1 d.2.2.1 d.2.2.2.1
 exact ⟨fun _=>⟨key _,fun _=>⟨fun _=>r17 _,fun _=>r17 _⟩⟩,fun _=>⟨key _,fun _=>⟨fun _=>r17 _,fun _=>r17 _⟩⟩⟩
theorem Gn {α:Type} [DecidableEq α] : ∀ {a b:List α},a.Nodup→(∀ x∈a,x∈b)→a.length≤b.length
 | [],b,_,_=>by simp
 | x::a,b,h,hs=>by
  have h:=List.nodup_cons.1 h
  have hx:=hs x (List.mem_cons_self ..)
  have:=Gn (a:=a) (b:=b.erase x) h.2 fun y hy=>by
   have hy':=hs y (List.mem_cons_of_mem _ hy)
   exact (List.mem_erase_of_ne (fun e:y=x=>h.1 (by rw [← e]; exact hy))).2 hy'
  rw [List.length_erase_of_mem hx] at this
  have:=List.length_pos_of_mem hx
  simp; omega
theorem ady {s:Sta} {w:List Cel} (h:WP s w) (ho:vj w):w.length≤s.1.length+11:=by
 obtain ⟨_,ex,h2,h3⟩:=h
 have hn:(w.map fun c=>(c.1,c.2.1)).Nodup:=by
  unfold List.Nodup
  rw [List.pairwise_map]
  refine ho.imp fun {a b} hab e => ?_
  have e1:a.1=b.1:=(Prod.mk.injEq .. ▸ e).1
  have e2:a.2.1=b.2.1:=(Prod.mk.injEq .. ▸ e).2
  rw [e1,e2,nc] at hab; omega
 have:=Gn (b:=(s.1.map fun x=>(x.1,x.2.1))++ex) hn fun x hx=>by
  obtain ⟨c,hc,rfl⟩:=List.mem_map.1 hx
  rcases (h3 c hc).2 with ⟨y,hy,e1,e2⟩ | h
  ·exact List.mem_append_left _ (List.mem_map.2 ⟨y,hy,by rw [e1,e2]⟩)
  ·exact List.mem_append_right _ h
 simp at this
 omega
end Go.Proofs.YtboikinjlmjgjaaGreat.Abs
namespace Go.Proofs.YtboikinjlmjgjaaGreat.Abs
open Go
theorem Pk {x:Int} (h:rV x):cv (x-1)=cv x:=by
 obtain ⟨h1,h2,h3⟩:=h
 have e:cv x * 1048576≤x∧x<(cv x+1) * 1048576:=vO.1 rfl
 refine vO.2 ⟨?_,by omega⟩
 by_cases he:x=cv x * 1048576
 ·exfalso
  apply h3
  rw [he]; exact Int.mul_tmod_left _ _
 ·omega
structure NewC (l:List Com) (c:Com):Prop where
 par:c.2.1.length≤4
 txt : ∀ x∈ws c,TxC x
 ord:vj (ws c)
 len:(ws c).length≤dl l+11
 new : ∀ d∈l,¬ d.1=c.1
theorem aj6 {a:Int} (h:a≤a-1):False:=by omega
theorem ahm {l:List Com} {c:Com} {s:Int} (hv:rV c.1) (hs:cv (c.1-1)=s) (h : ∀ d∈l,cv d.1=s→d.1≤c.1-1) : ∀ d∈l,¬ d.1=c.1:=fun d hd e=>by
 have:=h d hd (by rw [e, ← Pk hv,hs])
 exact aj6 (e ▸ this)
theorem Eu {l:List Com} {s:Sta} (hs:St1 s) (stamp:Int) (parents picks:List Int) (note:Str) (w:List Cel) (h1:parents.length≤4) (h2:picks.length≤4) (h3:note.length≤100) (hw:w.length<1000000) (hx : ∀ x∈w,TxC x)
  (hlen:vj w→w.length≤dl l+11) {site:Int} (hsite:cv (stamp-1)=site) (hmax : ∀ d∈l,cv d.1=site→d.1≤stamp-1) :
  Tot (jp false some s stamp parents picks note w) fun r=>r.2.1=true→NewC l r.1:=by
 simp only [jp,tt]
 refine (N4 s (stamp,parents,picks,note,w,()) (fun id=>hs.place id 1) (by show parents.length<_; omega) (by show picks.length<_; omega) (by show note.length<_; omega) hw hx).mono fun r hr e => ?_
 have hr:=hr (by simpa using e)
 exact ⟨h1,hx,hr.2,hlen hr.2,ahm hr.1 hsite hmax⟩
theorem Tc {x s:Int} (h:cv x=s) (h1:1≤s) (h2:s≤3):0≤x∧x<4194304:=by
 have:=vO.1 h
 omega
theorem G8 {l:List Com} (hl:H0 l) (hn:l≠[]) (hw:dl l≤60000) (r1:Int) (a1:0≤r1) (a2:r1<3) (d:bB.den) (parents:List Int) (hp:parents.length≤4) :
  Tot (lX false some l r1 d parents) fun r=>r.2.1=true→NewC l r.1:=by
 have hfew:=hl.few
 have hlen:0<l.length:=List.length_pos_iff.2 hn
 have hwl : ∀ c∈l,(ws c).length<1000000:=fun c hc=>by have:=qo hc; omega
 simp only [lX,tt,il]
 rw [aI (n:=1+r1) (by omega) (by omega)]
 refine (UX l parents hl.isFew (by omega)).mono fun r5 h5=>(zg l hl r5 (by omega)).mono fun s hs=>(Gs l (1+r1) (by omega) (by omega) (by omega) hwl).mono fun r7 h7=>(cA d.1 13 (by omega) (by omega)).mono fun r8 _=>⟨fun _ => ?_,fun _ => ?_⟩
 ·refine (cA d.2.2.1 (l.length:Int) (by omega) (by omega)).mono fun r9 h9=>⟨aX h9.1 h9.2, ?_⟩
  have hm:=fM (t:=ae) (l:=l) h9.1 h9.2
  have hb:=Tc h7.1 (by omega) (by omega)
  have hsum:=qo hm
  refine Eu (hs.st1 hl) _ r5 [_] _ _ (by omega) (by simp) (by simp) (hwl _ hm) (hl.txt _ hm) (fun _=>Nat.le_trans hsum (by omega)) (site:=1+r1) ?_ ?_
  ·rw [aI (by omega) (by omega),Int.add_sub_cancel]; exact h7.1
  ·rw [aI (by omega) (by omega),Int.add_sub_cancel]; exact h7.2
 ·have hst:=hs.st1 hl
  have hsl:s.1.length≤dl l:=by
   obtain ⟨_,_,_,_,h⟩:=hs
   exact h.len
  refine (Lk hst (by omega) d r7).mono fun w hwp=>⟨dP (by simp; omega),dP (by simp; omega), ?_⟩
  rw [List.nil_append]
  refine (Gs (l++[(0,r5,[],[100,101,101,100],w,())]) (1+r1) (by omega) (by omega) (by simp; omega) (fun c hc => ?_)).mono fun r11 h11 => ?_
  ·rcases List.mem_append.1 hc with hc | hc
   ·exact hwl c hc
   ·rw [List.mem_singleton.1 hc]; exact hwp.1
  ·have hb:=Tc h11.1 (by omega) (by omega)
   refine Eu hst _ r5 [] _ w (by omega) (by simp) (by simp) hwp.1 (fun x hx => ?_) (fun ho=>by have:=ady hwp ho; omega) (site:=1+r1) ?_ ?_
   ·obtain ⟨_,ex,_,h⟩:=hwp
    exact (h x hx).1
   ·rw [aI (by omega) (by omega),Int.add_sub_cancel]; exact h11.1
   ·rw [aI (by omega) (by omega),Int.add_sub_cancel]
    exact fun d hd=>h11.2 d (List.mem_append_left _ hd)
theorem Oy {l:List Com} (hl:H0 l) (hn:l≠[]) (hw:dl l≤60000) (made:List Int) (m1:0<made.length) (m2:made.length≤100) (d:bB.den) :
  Tot (lY l made d) fun r=>r.2.1=true→NewC l r.1:=by
 have hmx : ∀ k:Int,0≤k→bd (ov (w64 (w64 ((made.length:Int)-1)-k)) 0) made.length=true∨10<k:=fun k hk=>by
  by_cases h:10<k
  ·exact .inr h
  ·left
   rw [aI (n:=(made.length:Int)-1) (by omega) (by omega),aI (by omega) (by omega)]
   have:=Qy ((made.length:Int)-1-k) 0
   exact aX this.2.1 (by rcases this.2.2 with e | e <;> rw [e] <;> omega)
 simp only [lY,tG,tt,il]
 refine (cA _ 3 (by omega) (by omega)).mono fun r1 h1=>⟨by decide,(cA _ 3 (by omega) (by omega)).mono fun r2 h2=>⟨(hmx r2 h2.1).resolve_right (by omega),by decide,(cA _ 3 (by omega) (by omega)).mono fun r3 _=>⟨fun _=>⟨by decide,(cA _ (made.length:Int) (by omega) (by omega)).mono fun r4 h4=>⟨aX h4.1 h4.2,dP (by simp), ?_⟩⟩,fun _ => ?_⟩⟩⟩
 ·exact G8 hl hn hw r1 h1.1 h1.2 d _ (Nat.le_of_ble_eq_true rfl)
 ·exact G8 hl hn hw r1 h1.1 h1.2 d _ (Nat.le_of_ble_eq_true rfl)
theorem ahv {P R:List Com} {c:Com} (hl:H0 (P++R)) (hc:NewC (P++R) c) (h1 : ∀ d∈P,d.1<c.1) (h2 : ∀ d R',R=d::R' → ¬ d.1<c.1) (hn:(P++R).length<20) (hs:2 * dl (P++R)+11≤500000):H0 (P++c::R)∧dl (P++c::R)≤2 * dl (P++R)+11:=by
 have hsum:dl (P++c::R)=dl (P++R)+(ws c).length:=by
  rw [dG,dG]
  show _+((ws c).length+dl R)=_
  omega
 have hlen:=hc.len
 have hmem : ∀ d∈P++c::R,d=c∨d∈P++R:=fun d hd=>by
  simp only [List.mem_append,List.mem_cons] at hd ⊢
  rcases hd with h | h | h
  ·exact .inr (.inl h)
  ·exact .inl h
  ·exact .inr (.inr h)
 have hR : ∀ d∈R,c.1<d.1:=by
  have hasc:=(List.pairwise_append.1 hl.asc).2.1
  cases R with
  | nil=>intro d hd; cases hd
  | cons e R =>
   have he:=h2 e R rfl
   have hne:=hc.new e (by simp)
   have hlt:c.1<e.1:=Int.lt_iff_le_and_ne.2 ⟨Int.not_lt.1 he,fun h=>hne h.symm⟩
   intro d hd
   rcases List.mem_cons.1 hd with rfl | hd
   ·exact hlt
   ·exact Int.lt_trans hlt ((List.pairwise_cons.1 hasc).1 d hd)
 refine ⟨⟨by simp at hn ⊢; omega, ?_,fun d hd => ?_,fun d hd => ?_,fun d hd => ?_,by omega⟩,by omega⟩
 ·have hasc:=List.pairwise_append.1 hl.asc
  rw [List.pairwise_append]
  refine ⟨hasc.1,List.pairwise_cons.2 ⟨hR,hasc.2.1⟩,fun a ha b hb => ?_⟩
  rcases List.mem_cons.1 hb with rfl | hb
  ·exact h1 a ha
  ·exact hasc.2.2 a ha b hb
 ·rcases hmem d hd with rfl | h
  ·exact hc.par
  ·exact hl.par d h
 ·rcases hmem d hd with rfl | h
  ·exact hc.ord
  ·exact hl.ord d h
 ·rcases hmem d hd with rfl | h
  ·exact hc.txt
  ·exact hl.txt d h
structure First1 (c:Com):Prop where
 par:c.2.1.length≤4
 ord:vj (ws c)
 txt : ∀ x∈ws c,TxC x
 len:(ws c).length≤200
theorem First1.h0 {c:Com} (h:First1 c):H0 [c]:=by
 refine ⟨by simp,by simp,fun d hd => ?_,fun d hd => ?_,fun d hd => ?_,by have:=h.len; simp [dl]; omega⟩
 all_goals rw [List.mem_singleton.1 hd]
 ·exact h.par
 ·exact h.ord
 ·exact h.txt
def bnd:Nat→Nat
 | 0=>200
 | n+1=>2 * bnd n+11
theorem SI : ∀ {a b:Nat},a≤b→bnd a≤bnd b
 | a,b,h=>by
  induction h with
  | refl=>exact Nat.le_refl _
  | step _ ih=>exact Nat.le_trans ih (by simp only [bnd]; omega)
structure HisP (n:Nat) (l:List Com):Prop where
 h0:H0 l
 ne:l≠[]
 len:l.length≤n+1
 sum:dl l≤bnd n
theorem HisP.ins {n:Nat} {P R:List Com} {c:Com} (h:HisP n (P++R)) (hc:NewC (P++R) c) (h1 : ∀ d∈P,d.1<c.1) (h2 : ∀ d R',R=d::R' → ¬ d.1<c.1) (hn:n<9):HisP (n+1) (P++c::R):=by
 have hs:=h.sum
 have hb:bnd n≤54005:=SI (b:=8) (by omega)
 have hl:=h.len
 have:=ahv h.h0 hc h1 h2 (by omega) (by omega)
 exact ⟨this.1,by simp,by simp at hl ⊢; omega,by have:=this.2; simp only [bnd]; omega⟩
theorem HisP.mono {n:Nat} {l:List Com} (h:HisP n l):HisP (n+1) l :=
 ⟨h.h0,h.ne,by have:=h.len; omega,Nat.le_trans h.sum (SI (by omega))⟩
theorem HisP.upto {n m:Nat} {l:List Com} (h:HisP n l) (hnm:n≤m):HisP m l:=by
 induction hnm with
 | refl=>exact h
 | step _ ih=>exact ih.mono
theorem np (l:List bB.den) : ∀ (n:Nat) (out:List Com) (made:List Int) (i:Nat),HisP i out→0<made.length→made.length≤i+1→i≤9→9-i<n→Tot (jT n l out made i) fun r=>HisP 9 r
 | 0,out,made,i,h1,h2,h3,h4,h5=>by omega
 | n+1,out,made,i,h1,h2,h3,h4,h5=>by
  show Tot (i4 false some (jT n) l out made i) _
  simp only [i4,i5,tt,il]
  have e1:w64 ((i:Int)+1)=((i+1:Nat):Int):=by rw [aI (by omega) (by omega)]; omega
  rw [e1]
  refine ⟨fun hc => ?_,fun _ => ?_⟩
  ·have hc:i<l.length∧i<9:=by
    simp only [Bool.cond_false_right,Bool.and_eq_true,decide_eq_true_eq] at hc; omega
   have hb:bnd i≤54005:=SI (b:=8) (by omega)
   have hs:=h1.sum
   refine ⟨aX (by omega) (by omega),(Oy h1.h0 h1.ne (by omega) made h2 (by omega) _).mono fun r hr=>⟨fun ho => ?_,fun _ => ?_⟩⟩
   ·refine (Ns out r.1 (by have:=h1.len; omega)).mono fun r3 h3'=>⟨dP (by simp; omega), ?_⟩
    obtain ⟨P,R,rfl,rfl,a1,a2⟩:=h3'
    exact np l n _ _ (i+1) (h1.ins (hr ho) a1 a2 hc.2) (by simp) (by simp; omega) (by omega) (by omega)
   ·exact np l n _ _ (i+1) h1.mono h2 (by omega) (by omega) (by omega)
  ·exact h1.upto h4
end Go.Proofs.YtboikinjlmjgjaaGreat.Abs
