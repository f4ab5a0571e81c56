/- Evaluators that always answer: cells and models. -/
import Derived.Test.YtboikinjlmjgjaaGreatGenH
namespace Go.Proofs.YtboikinjlmjgjaaGreat.Abs
open Go
def Tot {α:Type} (o:Option α) (Q:α→Prop):Prop := ∃ r,o=some r∧Q r
section
variable {α β:Type} {P Q:α→Prop}
theorem LR {r:α}:Tot (some r) Q↔Q r:=⟨fun ⟨_,e,h⟩=>by cases e; exact h,fun h=>⟨r,rfl,h⟩⟩
theorem agR {b:Bool} {k:Option α}:Tot (ck b k) Q↔b=true∧Tot k Q:=by
 cases b
 ·simp [Tot,ck]
 ·simp [ck]
theorem acW {c:Bool} {x y:Option α}:Tot (bif c then x else y) Q↔(c=true→Tot x Q)∧(c=false→Tot y Q):=by cases c <;> simp
theorem agS {g:Bool} {v:β} {k:β→Option α}:Tot (jq g v k) Q↔g=true∧Tot (k v) Q:=by
 cases g
 ·simp [Tot,jq]
 ·simp [jq]
theorem XJ {x:Option β} {k:β→Option α}:Tot (uH x k) Q↔Tot x fun r=>Tot (k r) Q:=by
 cases x
 ·simp [Tot,uH]
 ·simp [uH,LR]
theorem Tot.mono {o:Option α} (h:Tot o P) (k : ∀ r,P r→Q r):Tot o Q:=let ⟨r,e,h⟩:=h; ⟨r,e,k r h⟩
theorem Tot.and {o:Option α} (h:Tot o P) (k:Tot o Q):Tot o fun r=>P r∧Q r:=by
 obtain ⟨r,e,h⟩:=h
 obtain ⟨r',e',h'⟩:=k
 rw [e] at e'; cases e'
 exact ⟨r,e,h,h'⟩
theorem Tot.some {o:Option α} (h:Tot o P):o.isSome=true:=by obtain ⟨r,e,_⟩:=h; rw [e]; rfl
theorem Tot.getD {o:Option α} (h:Tot o P) (d:α):P (o.getD d):=by obtain ⟨r,e,h⟩:=h; rw [e]; exact h
theorem ez {o:Option α} (h:o.isSome=true):Tot o fun _=>True:=by
 cases o with
 | none=>cases h
 | some r=>exact ⟨r,rfl,trivial⟩
end
theorem tt:(∀ {α:Type} {Q:α→Prop} {r:α},Tot (some r) Q↔Q r)∧(∀ {α:Type} {Q:α→Prop} {b:Bool} {k:Option α},Tot (ck b k) Q↔b=true∧Tot k Q)∧(∀ {α:Type} {Q:α→Prop} {c:Bool} {x y:Option α},Tot (bif c then x else y) Q↔(c=true→Tot x Q)∧(c=false→Tot y Q)) ∧
 (∀ {α β:Type} {Q:α→Prop} {g:Bool} {v:β} {k:β→Option α},Tot (jq g v k) Q↔g=true∧Tot (k v) Q)∧(∀ {α β:Type} {Q:α→Prop} {x:Option β} {k:β→Option α},Tot (uH x k) Q↔Tot x fun r=>Tot (k r) Q) ∧
 (∀ {β:Type} (m:Bool) (t:Ty) (e:Option t.den) (k:t.den→Option β),cl m t e k=uH e k)∧(∀ {β:Type} (m:Bool) (t:Ty) (g:Bool) (v:t.den) (k:t.den→Option β),ce m t g v k=jq g v k)∧(∀ {β:Type} (m:Bool) (t:Ty) (x:t.den) (k:t.den→β),fz m t x k=k x)∧(∀ {β:Type} (m:Bool) (x:Nat) (k:Nat→β),fm m x k=k x) ∧
 (∀ {β:Type} (m c:Bool) (k:Option β) (l:List Nat),nq m l c k=k)∧(∀ {β:Type} (m:Bool) (n:Nat) (c z:Bool) (k:Option β),nm m n c z k=ck (aC c z) k)∧(∀ p:Prop,(True∧p)=p)∧(∀ p:Prop,(p∧True)=p)∧(∀ p:Prop,(p→True)=True) :=
 ⟨LR,agR,acW,agS,XJ,s0,s1,s2,s3,zM,Tr,fun p=>true_and p,fun p=>and_true p,fun p=>implies_true p⟩
theorem aF {a b:Bool} (h:a=true→b=true):aC a b=true:=by cases a <;> cases b <;> simp_all [aC]
theorem bF:FU=1099511627776:=rfl
theorem aI {n:Int} (h0 : -9000000000000000000≤n) (h1:n≤9000000000000000000):w64 n=n:=gY (by omega) (by omega)
theorem aX {i:Int} {n:Nat} (h0:0≤i) (h1:i<n):bd i n=true:=by simp [bd,h0,h1]
theorem We (c:Int):(ij c).isSome=true:=by simp only [ij,ta,s1,zM]; rfl
theorem vh (c:Int):(eQ c).isSome=true:=by simp only [eQ,qd,s1,zM]; rfl
theorem mG (s:Str):Tot (de s) fun _=>True:=by
 simp only [de,mF,gw,iv,gv,iu,tt]
theorem adS (s:Str):Tot (lq s) fun _=>True:=by
 simp only [lq,Bg,sY,wW,sX,wV,tt]
theorem BS (s:Str) (t1:Int) (h1:0≤t1) (hs:s.length<1000000) : ∀ (n:Nat) (t5:Int),t1≤t5→t5≤s.length→s.length-t5<n→Tot (sd n s t1 t5) fun r=>0≤r∧t1+r≤s.length
 | 0,t5,_,h3,h4=>by omega
 | n+1,t5,h2,h3,h4=>by
  show Tot (qq false some (sd n) s t1 t5) _
  simp only [qq,tt,il]
  refine ⟨aF fun h=>aX (by omega) (by simpa using h),aF fun _=>We _,fun h => ?_,fun _ => ?_⟩
  ·have:t5<s.length:=by
    by_cases h':t5<s.length
    ·exact h'
    ·simp [h'] at h
   rw [aI (by omega) (by omega)]
   exact BS s t1 h1 hs n (t5+1) (by omega) (by omega) (by omega)
  ·rw [aI (by omega) (by omega)]; omega
theorem yb (s:Str) (t1:Int) (h1:0≤t1) (hs:s.length<1000000):Tot (iH s t1) fun r=>0≤r∧(t1≤s.length→t1+r≤s.length):=by
 simp only [iH,AL,tt,il]
 refine ⟨aF fun h=>aX h1 (by simpa using h),aF fun h=>aX h1 (by simp at h; exact h.1),aF fun _=>by simp [aS],fun _=>by omega,fun h => ?_⟩
 have:t1<s.length:=by
  by_cases h':t1<s.length
  ·exact h'
  ·simp [Int.not_lt.1 h'] at h
 exact (BS s t1 h1 hs FU t1 (by omega) (by omega) (by rw [bF]; omega)).mono fun r h=>⟨h.1,fun _=>h.2⟩
theorem Ve (s:Str) (t1:Int) (h0:0≤t1) (h1:t1<s.length) (hs:s.length<1000000):Tot (qG s t1) fun _=>True:=by
 simp only [qG,AS,pn,sB,pm,sA,tt,il]
 rw [aI (by omega) (by omega)]
 exact ⟨aX h0 h1,fun _=>aF fun h=>aX (by omega) (by simpa using h)⟩
end Go.Proofs.YtboikinjlmjgjaaGreat.Abs
namespace Go.Proofs.YtboikinjlmjgjaaGreat.Abs
open Go
theorem Xx (s:Str) (t1:Int) (h1:0≤t1) (hs:s.length<1000000):Xy s t1=true:=(yb s t1 h1 hs).some
theorem O9 (s:Str) (t1:Int) (h0:0≤t1) (h1:t1<s.length) (hs:s.length<1000000):Tot (nG s t1) fun _=>True:=by
 simp only [nG,vp,o7,tt,il]
 refine (yb s t1 h0 hs).mono fun r1 hr => ?_
 have hr1:=hr.2 (by omega)
 have e1:w64 (t1+r1)=t1+r1:=aI (by omega) (by omega)
 have e2:w64 (t1+r1+1)=t1+r1+1:=aI (by omega) (by omega)
 rw [e1,e2]
 refine ⟨by simp [h0]; omega,aX h0 h1,aF fun _=>(mG _).some,aF fun h=>aX (by omega) ?_,aF fun _=>Xx s _ (by omega) hs,fun h => ?_,fun _ _=>(mG _).mono fun _ _=>fun _=>aX h0 h1⟩
 ·simp only [Bool.cond_false_right,Bool.and_eq_true,decide_eq_true_eq] at h; omega
 ·have hw:0<HJ s (t1+r1+1):=by
   simp only [Bool.cond_false_right,Bool.and_eq_true,decide_eq_true_eq] at h; exact h.2
  have hl:t1+r1+1<s.length:=by
   simp only [Bool.cond_false_right,Bool.and_eq_true,decide_eq_true_eq] at h; exact h.1.1.2
  have hp:=yb s (t1+r1+1) (by omega) hs
  obtain ⟨r3,e3,h3⟩:=hp
  have e4:HJ s (t1+r1+1)=r3:=by unfold HJ; rw [e3]; rfl
  rw [e4] at hw
  have h3':=h3.2 (by omega)
  have e5:w64 (t1+r1+1+r3)=t1+r1+1+r3:=aI (by omega) (by omega)
  refine ⟨r3,e3, ?_⟩
  simp only [e5]
  refine ⟨by simp; omega,aX (by omega) (by simp; omega),fun _ _=>(mG _).mono fun _ _=>trivial,fun _ _=>(mG _).mono fun _ _=>trivial⟩
theorem zN (s:Str) (t1:Int) (hs:s.length<1000000) : ∀ (n:Nat) (t6:Int),0≤t6→t6≤s.length→s.length-t6<n→Tot (sP n s t1 t6) fun _=>True
 | 0,t5,_,h3,h4=>by omega
 | n+1,t6,h2,h3,h4=>by
  show Tot (qT false some (sP n) s t1 t6) _
  simp only [qT,tt,il]
  intro h
  have h:t6<s.length:=by simpa using h
  refine ⟨aX h2 h,fun _=>⟨aX h2 h,(ez (vh _)).mono fun _ _=>fun _=>⟨aX h2 h,aF fun _=>aX h2 h,fun _ => ?_⟩⟩⟩
  rw [aI (by omega) (by omega)]
  exact zN s t1 hs n (t6+1) (by omega) (by omega) (by omega)
theorem wz (s:Str) (t1:Int) (hs:s.length<1000000) : ∀ (n:Nat) (t6:Int),0≤t6→t6≤s.length→s.length-t6<n→Tot (pE n s t1 t6) fun _=>True
 | 0,t5,_,h3,h4=>by omega
 | n+1,t6,h2,h3,h4=>by
  show Tot (od false some (pE n) s t1 t6) _
  simp only [od,tt,il]
  refine ⟨aF fun h=>aX h2 (by simpa using h),fun h => ?_⟩
  have h:t6<s.length:=by
   simp only [Bool.cond_false_right,Bool.and_eq_true,decide_eq_true_eq] at h; exact h.1
  rw [aI (by omega) (by omega)]
  exact wz s t1 hs n (t6+1) (by omega) (by omega) (by omega)
theorem Vz (s:Str) (t1:Int) (h0:0≤t1) (h1:t1<s.length) (hs:s.length<1000000):Tot (oe s t1) fun _=>True:=by
 simp only [oe,Ba,tt]
 refine ⟨aX h0 h1,(ez (vh _)).mono fun _ _=>fun _=>⟨fun _ => ?_,fun _=>⟨fun _ => ?_,fun _=>⟨fun _ => ?_,fun _ => ?_⟩⟩⟩⟩
 ·rw [aI (by omega) (by omega)]
  exact zN s t1 hs FU (t1+1) (by omega) (by omega) (by rw [bF]; omega)
 ·exact wz s t1 hs FU t1 (by omega) (by omega) (by rw [bF]; omega)
 ·exact (O9 s t1 h0 h1 hs).mono fun _ _=>trivial
 ·exact (Ve s t1 h0 h1 hs).mono fun _ _=>trivial
theorem zR (s:Str) (t1:Int) (hs:s.length<1000000) (k:bi bm.den) (t0:Int) (hk : ∀ t6,t0<t6→t6≤s.length→Tot (k s t1 t6) fun _=>True) (hh:ixs s t0=35) : ∀ (n:Nat) (t6:Int),0≤t6→t0≤t6→t6≤s.length→t0<s.length→s.length-t6<n→Tot (oC k n s t1 t6) fun _=>True
 | 0,t5,_,_,h3,_,h4=>by omega
 | n+1,t6,h2,ha,h3,h5,h4=>by
  show Tot (q9 false some (oC k n) k s t1 t6) _
  simp only [q9,tt,il]
  refine ⟨aF fun h=>aX h2 (by simpa using h),fun h => ?_,fun h => ?_⟩
  ·have h:t6<s.length:=by
    simp only [Bool.cond_false_right,Bool.and_eq_true,decide_eq_true_eq] at h; exact h.1
   refine ⟨aX h2 h,(ez (vh _)).mono fun _ _=>fun _ => ?_⟩
   rw [aI (by omega) (by omega)]
   exact zR s t1 hs k t0 hk hh n (t6+1) (by omega) (by omega) (by omega) h5 (by omega)
  ·refine hk t6 ?_ h3
   by_cases e:t0=t6
   ·subst e; rw [hh] at h; simp [h5] at h
   ·omega
theorem q8 (s:Str) (t1:Int) (hs:s.length<1000000) : ∀ (n:Nat) (t6:Int),0≤t6→t6≤s.length→s.length-t6<n→Tot (oD n s t1 t6) fun _=>True
 | 0,t5,_,h3,h4=>by omega
 | n+1,t6,h2,h3,h4=>by
  show Tot (ra false some (oD n) (oC (oD n) FU) s t1 t6) _
  simp only [ra,tt,il]
  intro h
  have h:t6<s.length:=by simpa using h
  refine ⟨aX h2 h,fun _ => ?_,fun _=>⟨aX h2 h,fun hh => ?_⟩⟩
  ·rw [aI (by omega) (by omega)]
   exact q8 s t1 hs n (t6+1) (by omega) (by omega) (by omega)
  ·exact zR s t1 hs _ t6 (fun u hu hu'=>q8 s t1 hs n u (by omega) hu' (by omega)) (by simpa using hh) FU t6 h2 (by omega) h3 h (by rw [bF]; omega)
theorem VS (s:Str) (hs:s.length<1000000):Tot (oE s 0) fun _=>True:=by
 simp only [oE,Bc]
 exact q8 s 0 hs FU 0 (by omega) (by omega) (by rw [bF]; omega)
theorem yp {s:Str} (h : ¬ s=[]):(0:Int)<s.length:=by
 cases s with
 | nil=>exact absurd rfl h
 | cons a l=>simp
theorem EE (s:Str) (hs:s.length<1000000):Tot (fc s) fun _=>True:=by
 simp only [fc,xL,tt]
 have g : ∀ {c:Bool},(!(bif decide (s=[]) then true else c))=true→(0:Int)<s.length:=fun h=>yp fun e=>by simp [e] at h
 refine ⟨aF fun h=>aX (by omega) (yp (by simpa using h)),aF fun h=>aX (by omega) (g h),fun h=>(Vz s 0 (by omega) ?_ hs).mono fun _ _=>trivial⟩
 refine yp fun e => ?_
 simp [e] at h
theorem vA (s:Str) (hs:s.length<1000000) : ∀ (n:Nat) (c:Bool) (i:Int),0≤i→i≤s.length→s.length-i<n→Tot (mB n s c i) fun _=>True
 | 0,_,t5,_,h3,h4=>by omega
 | n+1,c,i,h2,h3,h4=>by
  show Tot (kL false some (mB n) s c i) _
  simp only [kL,iL,kM,tt,il]
  intro h
  have h:i<s.length:=by simpa using h
  rw [aI (by omega) (by omega)]
  have r:=fun c=>vA s hs n c (i+1) (by omega) (by omega) (by omega)
  exact ⟨aX h2 h,fun _=>⟨aX h2 h,fun _=>r _,fun _=>r _⟩,fun _=>⟨aX h2 h,fun _=>r _,fun _=>r _⟩⟩
theorem LN (s:Str) (t:Bool) (hs:s.length<1000000):Tot (fG s t) fun _=>True:=by
 simp only [fG,sq,tt]
 exact (VS s hs).mono fun _ _=>fun _ _=>vA s hs FU false 0 (by omega) (by omega) (by rw [bF]; omega)
theorem EV (k:Int) (s:Str) (hs:s.length<1000000):Tot (dM k s) fun _=>True:=by
 simp only [dM,mC,jG,d4,nh,tt]
 refine (EE s hs).mono fun r _ => ?_
 have:=adS s
 simp [this]
theorem iJ (id:Int):cH id=some (decide (id>1048576)&&decide (id<34603008) && !decide (id.tmod 1048576=0)):=by
 simp only [cH,pc,zM,Tr]
 rw [show (!decide ((1048576:Int)=0))=true from rfl,bu]
 simp [ck,Bool.cond_false_right]
theorem qx (id:Int):nJ id=true:=by unfold nJ; rw [iJ]; rfl
theorem vt (s:Str) (hs:s.length<1000000) : ∀ (n:Nat) (i:Int),0≤i→i≤s.length→s.length-i<n→Tot (mv n s i) fun _=>True
 | 0,t5,_,h3,h4=>by omega
 | n+1,i,h2,h3,h4=>by
  show Tot (kH false some (mv n) s i) _
  simp only [kH,tt,il]
  intro h
  have h:i<s.length:=by simpa using h
  refine ⟨aX h2 h,aF fun _=>aX h2 h,fun _ => ?_⟩
  rw [aI (by omega) (by omega)]
  exact vt s hs n (i+1) (by omega) (by omega) (by omega)
theorem LG (s:Str) (hs:s.length<1000000):Tot (kI s) fun _=>True:=by
 simp only [kI,sk,tt,il]
 refine ⟨aF fun h => ?_,fun _=>vt s hs FU 0 (by omega) (by omega) (by rw [bF]; omega)⟩
 rw [aI (by omega) (by omega)]
 have : ¬ ((s.length:Int)<1):=fun e=>by simp [e] at h
 exact aX (by omega) (by omega)
theorem HV (v:ap.den) (hs:v.2.2.1.length<1000000):Tot (iQ v) fun _=>True:=by
 simp only [iQ,po,tt]
 exact ⟨aF fun _=>qx _,aF fun _=>by simp [aS],fun _ _=>⟨aF fun _=>by simp [aS],aF fun _=>by simp [aS],fun _ _=>(EV _ _ hs).mono fun _ _=>trivial⟩⟩
theorem Al (k f:Int) (v:ap.den) (hs:v.2.2.1.length<1000000):Tot (ik k f v) fun _=>True:=by
 simp only [ik,tv,tt]
 refine fun _ _ _ _=>⟨fun _=>⟨aF fun _=>qx _,fun _ _=>(LG _ hs).mono fun _ _=>trivial⟩,fun _=>⟨fun _=>(EE _ hs).mono fun _ _=>trivial,fun _=>⟨fun _=>(HV v hs).mono fun _ _=>trivial,fun _ _=>⟨aF fun _=>by simp [aS],aF fun _=>(LN _ _ hs).some⟩⟩⟩⟩
theorem Pq (k f:Int) (v:ap.den) (hs:v.2.2.1.length<1000000):Tot (nS k f v) fun _=>True:=by
 simp only [nS,vD,tt]
 exact (Al k f v hs).mono fun _ _=>⟨aF fun _=>by simp [aS],aF fun _=>by simp [aS]⟩
end Go.Proofs.YtboikinjlmjgjaaGreat.Abs
namespace Go.Proofs.YtboikinjlmjgjaaGreat.Abs
open Go
def TxV (v:Val):Prop:=v.2.2.1.length<1000
def TxC (c:Cel):Prop:=TxV c.2.2.1
theorem fM {t:Ty} {l:List t.den} {i:Int} (h0:0≤i) (h1:i<l.length):ix t l i∈l:=by
 have h:i.toNat<l.length:=by omega
 unfold ix
 rw [List.getD_eq_getElem?_getD,List.getElem?_eq_getElem h]
 exact List.getElem_mem h
theorem Mw (a b:Cel):eY a b=some (decide (a.1=b.1)&&decide (a.2.1=b.2.1)):=by
 simp only [eY,mI,zM,Bool.cond_false_right]
theorem OV (a b:Cel):(ip a b).isSome=true:=by simp only [ip,xZ]; cases decide (a.1=b.1) <;> rfl
theorem GH (l:List Int) (x:Int) (hs:l.length<1000000) : ∀ (n:Nat) (r p:List Int),l=p++r→r.length<n→xd n l x (p.length:Int)=some (decide (x∈r))
 | 0,r,p,_,h=>by omega
 | n+1,r,p,e,h=>by
  subst e
  show xe false some (xd n) (p++r) x p.length=_
  simp only [xe,s2,il]
  cases r with
  | nil=>rw [ib (t:=aa)]; simp
  | cons c r =>
   have next:=GH (p++c::r) x hs n r (p++[c]) (by simp) (by simp at h; omega)
   rw [← fK (t:=aa) p c (by simp at hs; omega)] at next
   rw [dE (t:=aa),bQ (t:=aa),aX (by omega) (by simp; omega),next]
   simp only [ck,cond_true]
   by_cases h0:c=x
   ·simp [h0]
   ·have : ¬ x=c:=fun e=>h0 e.symm
    simp [h0,this]
theorem I3 (l:List Int) (x:Int) (hs:l.length<1000000):pY l x=some (decide (x∈l)):=by
 simp only [pY,I2]
 exact GH l x hs FU l [] rfl (by rw [bF]; omega)
theorem tg (l:List Int) (x:Int) (hs:l.length<1000000):zY l x=true:=by unfold zY; rw [I3 l x hs]; rfl
theorem NF (l:List Int) (x:Int) (hs:l.length<1000000):oL l x=decide (x∈l):=by unfold oL; rw [I3 l x hs]; rfl
theorem Gc (l:List Int) (x:Int) (hs:l.length<1000000) : ∀ (n:Nat) (t:Int),0≤t→t≤l.length→t<n→Tot (wi n l x t) fun r=>r.length≤l.length+1 ∧ ∀ y,y∈r↔y∈l∨y=x
 | 0,t,h0,_,h=>by omega
 | n+1,t,h0,h1,h=>by
  show Tot (wj false some (wi n) l x t) _
  have hb:t>0→bd (w64 (t-1)) l.length=true:=fun h=>by rw [aI (by omega) (by omega)]; exact aX (by omega) (by omega)
  simp only [wj,tt,List.drop_zero,List.nil_append,List.take_length]
  refine ⟨aF fun h=>hb (by simpa using h),fun h => ?_,fun _ => ?_⟩
  ·have ht:t>0:=by simp only [Bool.cond_false_right,Bool.and_eq_true,decide_eq_true_eq] at h; exact h.1
   refine ⟨hb ht,fun he=>⟨by omega,fun y=>⟨.inl,fun hy => ?_⟩⟩,fun _ => ?_⟩
   ·rcases hy with hy | rfl
    ·exact hy
    ·have he:ix aa l (w64 (t-1))=y:=by simpa using he
     rw [← he]
     have hi:=aI (n:=t-1) (by omega) (by omega)
     exact fM (t:=aa) (by omega) (by omega)
   ·rw [aI (by omega) (by omega)]; exact Gc l x hs n (t-1) (by omega) (by omega) (by omega)
  ·have hl:(List.take t.toNat l).length=t.toNat:=by simp; omega
   have hq:(decide (0≤t)&&decide (t≤(l.length:Int)))=true:=by simp [h0,h1]
   refine ⟨hq,by simp [lm,LIM]; omega,by simp [lm,LIM]; omega,hq,by simp [lm,LIM]; omega,by simp; omega,fun y => ?_⟩
   have:=List.take_append_drop t.toNat l
   simp only [List.mem_append,List.mem_singleton]
   constructor
   ·rintro ((hy | hy) | hy)
    ·exact .inl (List.mem_of_mem_take hy)
    ·exact .inr hy
    ·exact .inl (List.mem_of_mem_drop hy)
   ·rintro (hy | hy)
    ·rw [← this,List.mem_append] at hy
     rcases hy with hy | hy
     ·exact .inl (.inl hy)
     ·exact .inr hy
    ·exact .inl (.inr hy)
theorem ME (l:List Int) (x:Int) (hs:l.length<1000000):Tot (sJ l x) fun r=>r.length≤l.length+1 ∧ ∀ y,y∈r↔y∈l∨y=x:=by
 simp only [sJ,Im,tt]
 exact Gc l x hs FU l.length (by omega) (by omega) (by rw [bF]; omega)
theorem CX (l:List Cel) (id:Int) (hs:l.length<1000000) : ∀ (n:Nat) (out:List Cel) (i:Int),0≤i→i≤l.length→out.length≤i→(∀ c∈out,c∈l)→l.length-i<n→Tot (AZ n l id out i) fun r=>r.length≤l.length ∧ ∀ c∈r,c∈l
 | 0,out,i,h0,h1,h2,h3,h=>by omega
 | n+1,out,i,h0,h1,h2,h3,h=>by
  show Tot (CY false some (AZ n) l id out i) _
  simp only [CY,CZ,tt,il]
  refine ⟨fun hi => ?_,fun _=>⟨by omega,h3⟩⟩
  have hi:i<l.length:=by simpa using hi
  rw [aI (by omega) (by omega)]
  refine ⟨aX h0 hi,fun _=>⟨aX h0 hi,by simp [lm,LIM]; omega,CX l id hs n _ _ (by omega) (by omega) (by simp; omega) (fun c hc => ?_) (by omega)⟩,fun _=>CX l id hs n _ _ (by omega) (by omega) (by omega) h3 (by omega)⟩
  rcases List.mem_append.1 hc with hc | hc
  ·exact h3 c hc
  ·rw [List.mem_singleton.1 hc]; exact fM h0 hi
theorem adG (l:List Cel) (id:Int) (hs:l.length<1000000):Tot (C0 l id) fun r=>r.length≤l.length ∧ ∀ c∈r,c∈l:=by
 simp only [C0,Tq]
 exact CX l id hs FU [] 0 (by omega) (by omega) (by simp) (fun c hc=>by cases hc) (by rw [bF]; omega)
theorem vn (l:List Cel) (hs:l.length<1000000) : ∀ (n:Nat) (i:Int),0≤i→i≤l.length→l.length-i<n→Tot (mg n l i) fun _=>True
 | 0,i,h0,h1,h=>by omega
 | n+1,i,h0,h1,h=>by
  show Tot (kx false some (mg n) l i) _
  simp only [kx,tt,il]
  intro hi
  have hi:i<l.length:=by simpa using hi
  have hp : ∀ {c:Bool},(c&&decide (i>0))=true→bd (w64 (i-1)) l.length=true:=fun h=>by
   simp only [Bool.and_eq_true,decide_eq_true_eq] at h
   rw [aI (by omega) (by omega)]; exact aX (by omega) (by omega)
  refine ⟨aX h0 hi,(ez (by rw [iJ]; rfl)).mono fun r _=>⟨aF fun _=>aX h0 hi,aF fun _=>aX h0 hi,aF hp,aF fun _=>aX h0 hi,aF fun _=>OV _ _,aF fun _=>by simp [aS],fun _ => ?_⟩⟩
  rw [aI (by omega) (by omega)]
  exact vn l hs n (i+1) (by omega) (by omega) (by omega)
theorem Le (l:List Cel) (hs:l.length<1000000):Tot (ky l) fun _=>True:=by
 simp only [ky,rZ]
 exact vn l hs FU 0 (by omega) (by omega) (by rw [bF]; omega)
theorem vr (l:List Cel) (hs:l.length<1000000) : ∀ (n:Nat) (i:Int),0≤i→i≤l.length→l.length-i<n→Tot (mt n l i) fun _=>True
 | 0,i,h0,h1,h=>by omega
 | n+1,i,h0,h1,h=>by
  show Tot (kF false some (mt n) l i) _
  simp only [kF,tt,il]
  refine ⟨fun hi => ?_,fun _=>(Le l hs).mono fun _ _=>trivial⟩
  have hi:i<l.length:=by simpa using hi
  rw [aI (by omega) (by omega)]
  exact ⟨aX h0 hi,fun _=>vr l hs n (i+1) (by omega) (by omega) (by omega)⟩
theorem LC (l:List Cel) (hs:l.length<1000000):Tot (kG l) fun _=>True:=by
 simp only [kG,sj]
 exact vr l hs FU 0 (by omega) (by omega) (by rw [bF]; omega)
theorem qw (t:Mdl) (id f:Int) (hs:t.1.length<1000000) : ∀ (n:Nat) (lo hi:Int),0≤lo→lo≤hi→hi≤t.1.length→hi-lo<n→Tot (pb n t id f lo hi) fun _=>True
 | 0,lo,hi,h0,h1,h2,h=>by omega
 | n+1,lo,hi,h0,h1,h2,h=>by
  show Tot (nI false some (pb n) t id f lo hi) _
  simp only [nI,tt,il]
  refine ⟨fun hl => ?_,fun _=>⟨aF fun h=>aX h0 (by simpa using h),aF fun _=>by unfold Cy; rw [Mw]; rfl,fun h=>aX h0 ?_⟩⟩
  ·have hl:lo<hi:=by simpa using hl
   have e1:w64 (lo+hi)=lo+hi:=aI (by omega) (by omega)
   have e2:Int.tdiv (lo+hi) 2=(lo+hi) / 2:=Int.tdiv_eq_ediv_of_nonneg (by omega)
   have e3:w64 ((lo+hi) / 2)=(lo+hi) / 2:=aI (by omega) (by omega)
   have e4:w64 ((lo+hi) / 2+1)=(lo+hi) / 2+1:=aI (by omega) (by omega)
   rw [e1,e2,e3,e4]
   exact ⟨by decide,aX (by omega) (by omega),(ez (OV _ _)).mono fun _ _=>⟨fun _=>qw t id f hs n _ _ (by omega) (by omega) (by omega) (by omega),fun _=>qw t id f hs n _ _ (by omega) (by omega) (by omega) (by omega)⟩⟩
  ·simp only [Bool.cond_false_right,Bool.and_eq_true,decide_eq_true_eq] at h; exact h.1
theorem aab (t:Mdl) (id f:Int) (hs:t.1.length<1000000):Tot (xk t id f) fun _=>True:=by
 simp only [xk,Jn,sg,vq,tt]
 exact (qw t id f hs FU 0 t.1.length (by omega) (by omega) (by omega) (by rw [bF]; omega)).mono fun _ _=>trivial
theorem uP (t:Mdl) (hs:t.1.length<1000000) : ∀ (n:Nat) (l:List Int) (i:Int),0≤i→i≤t.1.length→l.length≤i→t.1.length-i<n→Tot (td n t l i) fun r=>r.length≤t.1.length
 | 0,l,i,h0,h1,h2,h=>by omega
 | n+1,l,i,h0,h1,h2,h=>by
  show Tot (re false some (td n) t l i) _
  simp only [re,rf,tt,il]
  refine ⟨fun hi => ?_,fun _=>by omega⟩
  have hi:i<t.1.length:=by simpa using hi
  rw [aI (n:=i+1) (by omega) (by omega)]
  refine ⟨aF fun _=>aX h0 hi,aF fun h => ?_,fun _=>⟨aX h0 hi,by simp [lm,LIM]; omega,uP t hs n _ _ (by omega) (by omega) (by simp; omega) (by omega)⟩,fun _=>uP t hs n _ _ (by omega) (by omega) (by omega) (by omega)⟩
  have h : ¬ i=0:=by simpa using h
  rw [aI (by omega) (by omega)]; exact aX (by omega) (by omega)
theorem Wg (t:Mdl) (hs:t.1.length<1000000):Tot (rg t) fun r=>r.length≤t.1.length:=by
 simp only [rg,Bj]
 exact uP t hs FU [] 0 (by omega) (by omega) (by simp) (by rw [bF]; omega)
theorem zC (t:Mdl) (hs:t.1.length<1000000) (hx : ∀ c∈t.1,TxC c) : ∀ (n:Nat) (kind:Int) (a b:Bool) (i:Int),0≤i→i≤t.1.length→t.1.length-i<n→Tot (kR n t kind a b i) fun _=>True
 | 0,kind,a,b,i,h0,h1,h=>by omega
 | n+1,kind,a,b,i,h0,h1,h=>by
  show Tot (nX false some (kR n) t kind a b i) _
  have key:i<t.1.length → ∀ kind a b,Tot (g9 false some (kR n) t i kind a b) fun _=>True:=fun hi kind a b=>by
   have hc:=hx _ (fM (t:=ac) h0 hi)
   simp only [g9,nY,tt,il]
   rw [aI (n:=i+1) (by omega) (by omega),aI (n:=(t.1.length:Int)-1) (by omega) (by omega)]
   have r:=fun a b=>zC t hs hx n kind a b (i+1) (by omega) (by omega) (by omega)
   refine ⟨aX h0 hi,aX h0 hi,(Al _ _ _ (Nat.lt_trans hc (by omega))).mono fun _ _=>fun _=>⟨aF fun _=>aX h0 hi,aF fun _=>aX h0 hi,aF fun h=>aX (by omega) ?_,aF fun _=>aX h0 hi,fun _=>⟨aF fun _=>by simp [aS],fun _=>r _ _⟩,fun _=>r _ _⟩⟩
   have h : ¬ i=(t.1.length:Int)-1:=by simpa using h
   omega
  simp only [nX,tt,il]
  intro hi
  have hi:i<t.1.length:=by simpa using hi
  refine ⟨aF fun _=>aX h0 hi,aF fun h => ?_,fun _=>⟨aX h0 hi,fun _=>⟨aX h0 hi,key hi _ _ _⟩⟩,fun _=>key hi _ _ _⟩
  have h : ¬ i=0:=by simpa using h
  rw [aI (by omega) (by omega)]; exact aX (by omega) (by omega)
theorem Px (t:Mdl) (hs:t.1.length<1000000) (hx : ∀ c∈t.1,TxC c):Tot (nZ t) fun _=>True:=by
 simp only [nZ,vL,tt]
 exact (LC _ hs).mono fun _ _ _=>zC t hs hx FU 0 false false 0 (by omega) (by omega) (by rw [bF]; omega)
theorem uc (t:Mdl) (hs:t.1.length<1000000) (to most:Int) (hm:most≤1000001) : ∀ (n:Nat) (id i:Int),0≤i→i≤1000001→1000001-i<n→Tot (jN n to most t id i) fun _=>True
 | 0,id,i,h0,h1,h=>by omega
 | n+1,id,i,h0,h1,h=>by
  show Tot (iY false some (jN n) to most t id i) _
  simp only [iY,tt]
  intro hi
  have hi:i<most:=by simpa using hi
  rw [aI (by omega) (by omega)]
  exact (aab t id 2 hs).mono fun _ _ _ _=>uc t hs to most hm n _ (i+1) (by omega) (by omega) (by omega)
theorem Ii (t:Mdl) (hs:t.1.length<1000000) (id to most:Int) (hm:most≤1000001):Tot (fW t id to most) fun _=>True:=by
 simp only [fW,pz]
 exact uc t hs to most hm FU id 0 (by omega) (by omega) (by rw [bF]; omega)
theorem qc (t:Mdl) (hs:t.1.length<1000000) (id:Int) (r2:List Int) (hr:r2.length≤t.1.length) : ∀ (n:Nat) (out:List Int) (i:Int),0≤i→i≤r2.length→out.length≤i→r2.length-i<n→Tot (m7 n id r2 t out i) fun r=>r.length≤t.1.length
 | 0,out,i,h0,h1,h2,h=>by omega
 | n+1,out,i,h0,h1,h2,h=>by
  show Tot (lZ false some (m7 n) id r2 t out i) _
  simp only [lZ,l5,tt,il]
  refine ⟨fun hi => ?_,fun _=>by omega⟩
  have hi:i<r2.length:=by simpa using hi
  have hg:Gb t (ix aa r2 i) id (w64 ((r2.length:Int)+1))=true:=(Ii t hs _ _ _ (by rw [aI (by omega) (by omega)]; omega)).some
  rw [hg,aI (n:=i+1) (by omega) (by omega)]
  exact ⟨aX h0 hi,aF fun _=>aX h0 hi,by simp [aS,bu],fun _=>⟨aX h0 hi,by simp [lm,LIM]; omega,qc t hs id r2 hr n _ _ (by omega) (by omega) (by simp; omega) (by omega)⟩,fun _=>qc t hs id r2 hr n _ _ (by omega) (by omega) (by omega) (by omega)⟩
theorem OL (t:Mdl) (hs:t.1.length<1000000) (hx : ∀ c∈t.1,TxC c) (id:Int):Tot (l6 t id) fun r=>r.length≤t.1.length:=by
 simp only [l6,tH,tt]
 exact (Px t hs hx).mono fun _ _=>⟨aF fun _=>qx _,fun _=>by simp,fun _=>(Wg t hs).mono fun r2 hr=>qc t hs id r2 hr FU [] 0 (by omega) (by omega) (by simp) (by rw [bF]; omega)⟩
end Go.Proofs.YtboikinjlmjgjaaGreat.Abs
