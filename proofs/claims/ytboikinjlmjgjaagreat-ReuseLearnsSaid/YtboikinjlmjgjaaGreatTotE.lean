/- Evaluators that always answer: ancestors, tips, heads. -/
import Derived.Test.YtboikinjlmjgjaaGreatTotC
namespace Go.Proofs.YtboikinjlmjgjaaGreat.Abs
open Go
abbrev Com:=ae.den
abbrev ws (c:Com):List Cel:=c.2.2.2.2.1
def vj (w:List Cel):Prop:=w.Pairwise fun a b=>ahd a.1 a.2.1 b.1 b.2.1=true
def Wr (w:List Cel) (id f:Int):Prop := ∃ c∈w,c.1=id∧c.2.1=f
def Chn:Cel→List Cel→Prop
 | _,[]=>True
 | a,b::r=>ahd a.1 a.2.1 b.1 b.2.1=true∧Chn b r
theorem KR : ∀ {r:List Cel} {a:Cel},Chn a r→(a::r).Pairwise fun a b=>ahd a.1 a.2.1 b.1 b.2.1=true
 | [],a,_=>List.pairwise_cons.2 ⟨fun _ h=>by (cases h),List.Pairwise.nil⟩
 | b::r,a,⟨h1,h2⟩=>by
  have ih:=KR h2
  refine List.pairwise_cons.2 ⟨fun x hx => ?_,ih⟩
  rcases List.mem_cons.1 hx with rfl | hx
  ·exact h1
  ·exact tO h1 ((List.pairwise_cons.1 ih).1 x hx)
theorem uf (l:List Cel) (hs:l.length<1000000) : ∀ (n:Nat) (r p:List Cel) (a:Cel),l=p++a::r→r.length<n→Tot (gF n l ((p.length:Int)+1)) fun b=>b=true→Chn a r
 | 0,r,p,a,e,h=>by omega
 | n+1,r,p,a,e,h=>by
  subst e
  show Tot (eJ false some (gF n) (p++a::r) ((p.length:Int)+1)) _
  simp only [eJ,tt,il]
  simp only [List.length_append,List.length_cons] at hs ⊢
  have e0:w64 ((p.length:Int)+1-1)=p.length:=by rw [aI (by omega) (by omega)]; omega
  cases r with
  | nil=>exact ⟨fun h=>by simp at h,fun _ _=>trivial⟩
  | cons b r =>
   rw [e0]
   have e1:ix ac (p++a::b::r) (p.length:Int)=a:=bQ (t:=ac) p a (b::r)
   have e2:ix ac (p++a::b::r) ((p.length:Int)+1)=b:=by
    have:=bQ (t:=ac) (p++[a]) b r
    rw [show p++a::b::r=(p++[a])++b::r by simp,show ((p.length:Int)+1)=((p++[a]).length:Int) by simp]
    exact this
   have e3:w64 ((p.length:Int)+1+1)=((p++[a]).length:Int)+1:=by rw [aI (by omega) (by omega)]; simp
   rw [e1,e2,e3]
   refine ⟨fun _ => ?_,fun h => ?_⟩
   ·refine ⟨aX (by omega) (by simp; omega),aX (by omega) (by simp; omega),aX (by omega) (by simp; omega),aX (by omega) (by simp; omega),fun _ h=>(nomatch h),fun h => ?_⟩
    refine (uf (p++a::b::r) (by simp at hs ⊢; omega) n r (p++[a]) b (by simp) (by simp at h; simp at *; omega)).mono fun x hx e=>⟨?_,hx e⟩
    rw [← Hk]; simpa using h
   ·simp at h; omega
theorem It (l:List Cel) (hs:l.length<1000000):Tot (i0 l) fun b=>b=true→vj l:=by
 simp only [i0,pC]
 cases l with
 | nil =>
  show Tot (eJ false some (gF 1099511627775) [] 1) _
  simp only [eJ,tt,il]
  exact ⟨fun h=>by simp at h,fun _ _=>List.Pairwise.nil⟩
 | cons a r=>exact (uf (a::r) hs FU r [] a rfl (by rw [bF]; simp at hs; omega)).mono fun b hb e=>KR (hb e)
theorem tR (w:List Cel) (id f:Int) (hs:w.length<1000000) : ∀ (n:Nat) (i:Int), -1≤i→i<w.length→i+1<n→(∀ k:Nat,i<k→k<w.length → ¬ ((w.getD k (zero ac)).1=id∧(w.getD k (zero ac)).2.1=f))→Tot (eR n w id f i) fun r=>r.2.1=true↔Wr w id f
 | 0,i,h0,h1,h,_=>by omega
 | n+1,i,h0,h1,h,hk=>by
  show Tot (em false some (eR n) w id f i) _
  simp only [em,tt]
  refine ⟨fun hi => ?_,fun hi => ?_⟩
  ·have hi:0≤i:=by simpa using hi
   refine ⟨aX hi h1,aF fun _=>aX hi h1,fun hc=>⟨aX hi h1,fun _ => ?_,fun _=>trivial⟩,fun hc => ?_⟩
   ·simp only [Bool.cond_false_right,Bool.and_eq_true,decide_eq_true_eq] at hc
    exact ⟨_,fM (t:=ac) hi h1,hc.1,hc.2⟩
   ·rw [aI (by omega) (by omega)]
    refine tR w id f hs n (i-1) (by omega) (by omega) (by omega) fun k hk1 hk2 => ?_
    by_cases e:i=k
    ·subst e
     simp only [Bool.cond_false_right,Bool.and_eq_false_imp,decide_eq_true_eq,decide_eq_false_iff_not] at hc
     intro hh
     exact hc hh.1 hh.2
    ·exact hk k (by omega) hk2
  ·have hi : ¬ 0≤i:=by simpa using hi
   refine ⟨fun h=>(nomatch h),fun ⟨c,hc,e1,e2⟩ => ?_⟩
   obtain ⟨k,hk',rfl⟩:=List.mem_iff_getElem.1 hc
   have:=hk k (by omega) hk'
   rw [List.getD_eq_getElem?_getD,List.getElem?_eq_getElem hk'] at this
   exact absurd ⟨e1,e2⟩ this
theorem gk (w:List Cel) (id f:Int) (hs:w.length<1000000):Tot (cG w id f) fun r=>r.2.1=true↔Wr w id f:=by
 simp only [cG,kv,tt,il]
 rw [aI (by omega) (by omega)]
 exact tR w id f hs FU _ (by omega) (by omega) (by rw [bF]; omega) fun k h1 h2=>by omega
theorem ET (c:Com) (id f:Int) (hs:(ws c).length<1000000):Tot (eS c id f) fun r=>r=true↔Wr (ws c) id f:=by
 simp only [eS,mh,tt]
 exact (gk _ id f hs).mono fun _ h=>h
theorem zX (l:List Int) (hs:l.length<1000000) : ∀ (n:Nat) (i:Int),0≤i→i≤l.length→l.length-i<n→Tot (pS n l i) fun _=>True
 | 0,i,h0,h1,h=>by omega
 | n+1,i,h0,h1,h=>by
  show Tot (oG false some (pS n) l i) _
  simp only [oG,tt,il]
  intro hi
  have hi:i<l.length:=by simpa using hi
  rw [aI (n:=i+1) (by omega) (by omega)]
  refine ⟨aX h0 hi,(ez (by rw [iJ]; rfl)).mono fun r _=>⟨aF fun _=>aX h0 hi,aF fun h => ?_,aF fun _=>by simp [aS],fun _=>zX l hs n (i+1) (by omega) (by omega) (by omega)⟩⟩
  simp only [Bool.and_eq_true,decide_eq_true_eq] at h
  rw [aI (by omega) (by omega)]; exact aX (by omega) (by omega)
theorem Di (l:List Int) (hs:l.length<1000000):Tot (kn l) fun _=>True:=by
 simp only [kn,w4]
 exact zX l hs FU 0 (by omega) (by omega) (by rw [bF]; omega)
def rV (id:Int):Prop:=1048576<id∧id<34603008 ∧ ¬ id.tmod 1048576=0
theorem wk (c:Com) (hs:c.2.2.2.1.length<1000000) (P:Prop) (hp:P) : ∀ (n:Nat) (i:Int),0≤i→i≤c.2.2.2.1.length→c.2.2.2.1.length-i<n→Tot (mM n c i) fun _=>P
 | 0,i,h0,h1,h=>by omega
 | n+1,i,h0,h1,h=>by
  show Tot (lf false some (mM n) c i) _
  simp only [lf,tt,il]
  refine ⟨fun hi => ?_,fun _=>hp⟩
  have hi:i<c.2.2.2.1.length:=by simpa using hi
  rw [aI (n:=i+1) (by omega) (by omega)]
  exact ⟨aX h0 hi,aF fun _=>aX h0 hi,fun _=>hp,fun _=>wk c hs P hp n (i+1) (by omega) (by omega) (by omega)⟩
theorem MH (c:Com) (h1:c.2.1.length<1000000) (h2:c.2.2.1.length<1000000) (h3:c.2.2.2.1.length<1000000):Tot (lg c) fun r=>r=true→rV c.1:=by
 simp only [lg,sK,tt]
 have e:cH c.1=some _:=iJ c.1
 refine ⟨_,e,aF fun _=>(Di _ h1).some,aF fun _=>(Di _ h2).some,aF fun _=>tg _ _ h1,aF fun _=>tg _ _ h2,fun _ h=>(nomatch h),fun h => ?_⟩
 have hv:rV c.1:=by
  cases hq:(decide (c.1>1048576)&&decide (c.1<34603008) && !decide (c.1.tmod 1048576=0)) with
  | false=>rw [hq] at h; simp at h
  | true=>simpa [rV,and_assoc] using hq
 exact (wk c h3 (rV c.1) hv FU 0 (by omega) (by omega) (by rw [bF]; omega)).mono fun _ h _=>h
theorem sV (s:Sta) (id:Int) (hp:cK s id 1=true):Tot (fu s id) fun _=>True:=by
 simp only [fu,Bf,tt,il]
 refine ⟨hp,fun h=>aX (by omega) ?_⟩
 have h : ¬ ((gQ s id 1).length:Int)=0:=by simpa using h
 omega
theorem Nq (s:Sta) (w:List Cel) (id:Int) (hp:cK s id 1=true) (hs:w.length<1000000):Tot (ll s w id) fun _=>True:=by
 simp only [ll,sW,tt]
 exact (sV s id hp).mono fun _ _ _=>(gk w id 1 hs).mono fun _ _=>trivial
theorem QO (f:Int):(f7 f).isSome=true:=by
 simp only [f7,pO,zM,Tr]
 rw [aF fun _=>by simp [aS]]; rfl
theorem Kr (s:Sta) (c:Com) (x:Cel) (hp:cK s x.1 1=true) (hs:(ws c).length<1000000) (hx:TxC x):Tot (jf s c x) fun _=>True:=by
 simp only [jf,p4,iD,jX,fx,jW,tt]
 exact (ez (by rw [iJ]; rfl)).mono fun r _=>⟨aF fun _=>QO _,fun _=>(sV s x.1 hp).mono fun _ _=>⟨fun _=>⟨aF fun _=>by simp [aS],fun _ _=>⟨fun _=>(gk _ _ _ hs).mono fun _ _=>trivial,fun _=>(gk _ _ _ hs).mono fun _ _=>trivial⟩⟩,fun _=>(Nq s _ _ hp hs).mono fun _ _ _=>(Pq _ _ _ (Nat.lt_trans hx (by omega))).mono fun _ _=>trivial⟩⟩
theorem xw (s:Sta) (c:Com) (hp : ∀ id,cK s id 1=true) (hs:(ws c).length<1000000) (hx : ∀ x∈ws c,TxC x) (P:Prop) (hP:P) : ∀ (n:Nat) (i:Int),0≤i→i≤(ws c).length→(ws c).length-i<n→Tot (m0 n s c i) fun _=>P
 | 0,i,h0,h1,h=>by omega
 | n+1,i,h0,h1,h=>by
  show Tot (lO false some (m0 n) s c i) _
  simp only [lO,tt,il]
  refine ⟨fun hi => ?_,fun _=>hP⟩
  have hi:i<(ws c).length:=by simpa using hi
  rw [aI (n:=i+1) (by omega) (by omega)]
  exact ⟨aX h0 hi,(Kr s c _ (hp _) hs (hx _ (fM (t:=ac) h0 hi))).mono fun _ _=>⟨fun _=>hP,fun _=>xw s c hp hs hx P hP n (i+1) (by omega) (by omega) (by omega)⟩⟩
theorem N4 (s:Sta) (c:Com) (hp : ∀ id,cK s id 1=true) (h1:c.2.1.length<1000000) (h2:c.2.2.1.length<1000000) (h3:c.2.2.2.1.length<1000000) (hs:(ws c).length<1000000) (hx : ∀ x∈ws c,TxC x):Tot (lP s c) fun r=>r=0→rV c.1∧vj (ws c):=by
 simp only [lP,tu,tt]
 refine (MH c h1 h2 h3).mono fun r1 hr1=>⟨fun _ h=>absurd h (by decide),fun e1=>(It (ws c) hs).mono fun r2 hr2=>⟨fun _ h=>absurd h (by decide),fun e2 => ?_⟩⟩
 exact (xw s c hp hs hx (rV c.1∧vj (ws c)) ⟨hr1 (by simpa using e1),hr2 (by simpa using e2)⟩ FU 0 (by omega) (by omega) (by rw [bF]; omega)).mono fun _ h _=>h
def oQ (l:List Com) (x:Int):Option Com:=l.find? fun c=>decide (c.1=x)
theorem Am (l:List Com) (x:Int) (hs:l.length<1000000) : ∀ (n:Nat) (r p:List Com),l=p++r→r.length<n→p8 n l x (p.length:Int)=some (match oQ r x with | some c=>(c,true,()) | none=>((0,[],[],[],[],()),false,()))
 | 0,r,p,_,h=>by omega
 | n+1,r,p,e,h=>by
  subst e
  show oR false some (p8 n) (p++r) x p.length=_
  simp only [oR,s2,il]
  cases r with
  | nil=>rw [ib (t:=ae)]; rfl
  | cons c r =>
   have next:=Am (p++c::r) x hs n r (p++[c]) (by simp) (by simp at h; omega)
   rw [← fK (t:=ae) p c (by simp at hs; omega)] at next
   rw [dE (t:=ae),bQ (t:=ae),aX (by omega) (by simp; omega),next]
   simp only [ck,cond_true,oQ,List.find?_cons]
   by_cases h0:c.1=x
   ·simp [h0]
   ·simp [h0]
theorem GZ (l:List Com) (x:Int) (hs:l.length<1000000):ku l x=some (match oQ l x with | some c=>(c,true,()) | none=>((0,[],[],[],[],()),false,())):=by
 simp only [ku,xC]
 exact Am l x hs FU l [] rfl (by rw [bF]; omega)
end Go.Proofs.YtboikinjlmjgjaaGreat.Abs
namespace Go.Proofs.YtboikinjlmjgjaaGreat.Abs
open Go
theorem dP {n:Nat} (h:n≤4000000000):lm n=true:=by unfold lm LIM; exact decide_eq_true (by omega)
def InH (l:List Com) (x:Int):Prop := ∃ c∈l,c.1=x
theorem Eh {l:List Com} {x:Int} (h:oQ l x=none) : ¬ InH l x:=by
 rintro ⟨c,hc,e⟩
 unfold oQ at h
 have:=List.find?_eq_none.1 h c hc
 simp [e] at this
def ajU (l:List Com) (r:List Int):Prop := ∀ x∈r,∀ c,oQ l x=some c → ∀ p∈c.2.1,InH l p→p∈r
def aL:List Com→List Int→Nat
 | [],_=>0
 | c::l,out=>(if c.1∈out then 0 else c.2.1.length)+aL l out
theorem F4 {out out':List Int} (h : ∀ y∈out,y∈out') : ∀ l,aL l out'≤aL l out
 | []=>Nat.le_refl _
 | c::l=>by
  have:=F4 h l
  simp only [aL]
  by_cases h1:c.1∈out
  ·simp [h1,h _ h1]; omega
  ·by_cases h2:c.1∈out' <;> simp [h1,h2] <;> omega
theorem F3 {out out':List Int} {x:Int} (hx:x∈out') (hn : ¬ x∈out) (h : ∀ y∈out,y∈out') : ∀ {l:List Com} {c:Com},oQ l x=some c→aL l out'+c.2.1.length≤aL l out
 | [],c,hc=>by simp [oQ] at hc
 | d::l,c,hc=>by
  by_cases e:d.1=x
  ·have:d=c:=by simpa [oQ,e] using hc
   subst this
   have:=F4 h l
   rw [← e] at hx hn
   simp only [aL,hx,hn,if_true,if_false]; omega
  ·have hc':oQ l x=some c:=by simpa [oQ,e] using hc
   have:=F3 hx hn h hc'
   simp only [aL]
   by_cases h1:d.1∈out
   ·simp [h1,h _ h1]; omega
   ·by_cases h2:d.1∈out' <;> simp [h1,h2] <;> omega
def acG (l:List Com) (st r:List Int):Prop:=(∀ x∈st,InH l x→x∈r)∧ajU l r
theorem tL (l:List Com) (st:List Int) (B:Nat) (hB:B<100000) (hs:l.length<1000000) : ∀ (n:Nat) (out:List Int) (hi:Nat) (todo:List Int),hi≤todo.length→hi+aL l out<n→out.length+hi+aL l out≤B →
  (∀ x∈st,InH l x→x∈out∨x∈todo.take hi)→(∀ x∈out,∀ c,oQ l x=some c → ∀ p∈c.2.1,InH l p→p∈out∨p∈todo.take hi)→Tot (xS n l out hi todo) fun r=>r.length≤B∧acG l st r
 | 0,out,hi,todo,h1,h2,h3,h4,h5=>by omega
 | n+1,out,hi,todo,h1,h2,h3,h4,h5=>by
  show Tot (xT false some (xS n) l out hi todo) _
  simp only [xT,tt,ni]
  refine ⟨fun hp => ?_,fun hp => ?_⟩
  ·have hp:0<hi:=by simpa using hp
   have e0:w64 ((hi:Int)-1)=(hi:Int)-1:=aI (by omega) (by omega)
   have e1:((hi:Int)-1).toNat=hi-1:=by omega
   rw [e0,e1,Nat.zero_add]
   obtain ⟨k,rfl⟩ : ∃ k,hi=k+1:=⟨hi-1,by omega⟩
   rw [show k+1-1=k from rfl]
   have hk:k<todo.length:=by omega
   have e2:todo.getD k (zero aa)=todo[k]:=by rw [List.getD_eq_getElem?_getD,List.getElem?_eq_getElem hk]; rfl
   rw [e2]
   have hlast : ∀ y,y∈todo.take (k+1)↔y∈todo.take k∨y=todo[k]:=fun y=>by
    rw [List.take_succ_eq_append_getElem hk,List.mem_append,List.mem_singleton]
   generalize hx:todo[k]=x at *
   refine ⟨by simp; omega,by simp; omega,_,GZ l x hs,aF fun _=>tg _ _ (by omega), ?_⟩
   rw [NF _ _ (by omega)]
   cases hf:oQ l x with
   | none =>
    refine ⟨fun _=>tL l st B hB hs n out k todo (by omega) (by omega) (by omega) (fun y hy hi => ?_) (fun y hy c hc p hp hi => ?_),fun h=>by simp at h⟩
    ·rcases h4 y hy hi with h | h
     ·exact .inl h
     ·rcases (hlast y).1 h with h | rfl
      ·exact .inr h
      ·exact absurd hi (Eh hf)
    ·rcases h5 y hy c hc p hp hi with h | h
     ·exact .inl h
     ·rcases (hlast p).1 h with h | rfl
      ·exact .inr h
      ·exact absurd hi (Eh hf)
   | some c =>
    dsimp only
    refine ⟨fun h => ?_,fun h => ?_⟩
    ·have hin:x∈out:=by simpa using h
     refine tL l st B hB hs n out k todo (by omega) (by omega) (by omega) (fun y hy hi => ?_) (fun y hy c hc p hp hi => ?_)
     ·rcases h4 y hy hi with h | h
      ·exact .inl h
      ·rcases (hlast y).1 h with h | rfl
       ·exact .inr h
       ·exact .inl hin
     ·rcases h5 y hy c hc p hp hi with h | h
      ·exact .inl h
      ·rcases (hlast p).1 h with h | rfl
       ·exact .inr h
       ·exact .inl hin
    ·have hni : ¬ x∈out:=by simpa using h
     refine (ME out x (by omega)).mono fun r2 hr2 => ?_
     have hsub : ∀ y∈out,y∈r2:=fun y hy=>(hr2.2 y).2 (.inl hy)
     have hrest:=F3 ((hr2.2 x).2 (.inr rfl)) hni hsub hf
     have htk:(todo.take k++c.2.1).take (k+c.2.1.length)=todo.take k++c.2.1:=by
      apply List.take_of_length_le
      simp; omega
     refine ⟨dP (by omega),tL l st B hB hs n r2 _ _ (by simp; omega) (by omega) (by omega) (fun y hy hi => ?_) (fun y hy d hd p hp hi => ?_)⟩
     ·rw [htk,List.mem_append]
      rcases h4 y hy hi with h | h
      ·exact .inl (hsub y h)
      ·rcases (hlast y).1 h with h | rfl
       ·exact .inr (.inl h)
       ·exact .inl ((hr2.2 _).2 (.inr rfl))
     ·rw [htk,List.mem_append]
      rcases (hr2.2 y).1 hy with hy | rfl
      ·rcases h5 y hy d hd p hp hi with h | h
       ·exact .inl (hsub p h)
       ·rcases (hlast p).1 h with h | rfl
        ·exact .inr (.inl h)
        ·exact .inl ((hr2.2 _).2 (.inr rfl))
      ·rw [hf] at hd
       cases hd
       exact .inr (.inr hp)
  ·have hp:hi=0:=by simpa using hp
   subst hp
   refine ⟨by omega,fun x hx hi => ?_,fun x hx c hc p hp hi => ?_⟩
   ·rcases h4 x hx hi with h | h
    ·exact h
    ·simp at h
   ·rcases h5 x hx c hc p hp hi with h | h
    ·exact h
    ·simp at h
def Few (l:List Com):Prop:=l.length≤20 ∧ ∀ c∈l,c.2.1.length≤4
theorem Tf : ∀ (l:List Com),(∀ c∈l,c.2.1.length≤4) → ∀ out,aL l out≤4 * l.length
 | [],_,_=>Nat.le_refl _
 | c::l,h,out=>by
  have:=Tf l (fun d hd=>h d (List.mem_cons_of_mem _ hd)) out
  have:=h c (List.mem_cons_self ..)
  simp only [aL,List.length_cons]
  split <;> omega
theorem EJ (l:List Com) (st:List Int) (hf:Few l) (hst:st.length≤1000):Tot (m9 l st) fun r=>r.length≤2000∧acG l st r:=by
 simp only [m9,KW,tt,List.take_nil,List.nil_append,Nat.zero_add]
 have h1:=Tf l hf.2 []
 have h2:=hf.1
 refine ⟨dP (by omega),tL l st 2000 (by omega) (by omega) FU [] st.length st (by omega) (by rw [bF]; omega) (by simp; omega) (fun x hx _ => .inr (by simpa using hx)) (fun x hx=>by cases hx)⟩
theorem OP (l:List Com) (a b:Int) (hf:Few l):Tot (l8 l a b) fun _=>True:=by
 simp only [l8,tJ,tt]
 have h:=EJ l [b] hf (by simp)
 exact ⟨aF fun _=>h.some,aF fun _=>tg _ _ (Nat.lt_of_le_of_lt (h.getD []).1 (by omega))⟩
theorem zu (l:List Com) (st:List Int) (hf:Few l) (hst:st.length≤1000) (k:eV (List Int)) (out:List Int) (i:Int) (h0:0≤i) (h1:i<st.length) (ho:out.length≤i) (hk : ∀ out:List Int,out.length≤i+1→Tot (k l st out (i+1)) fun r=>r.length≤st.length) : ∀ (n:Nat) (ok:Bool) (j:Int),0≤j→j≤st.length→st.length-j<n→Tot (nO k n l st out i ok j) fun r=>r.length≤st.length
 | 0,ok,j,h2,h3,h=>by omega
 | n+1,ok,j,h2,h3,h=>by
  show Tot (qz false some (nO k n) k l st out i ok j) _
  simp only [qz,nQ,nR,tt,il]
  rw [aI (n:=i+1) (by omega) (by omega)]
  refine ⟨fun hj => ?_,fun _=>⟨fun _=>⟨aX h0 h1,(ME out _ (by omega)).mono fun r hr=>hk r (by omega)⟩,fun _=>hk out (by omega)⟩⟩
  have hj:j<st.length:=by simp only [Bool.cond_false_right,Bool.and_eq_true,decide_eq_true_eq] at hj; exact hj.2
  rw [aI (n:=j+1) (by omega) (by omega)]
  have r:=fun ok=>zu l st hf hst k out i h0 h1 ho hk n ok (j+1) (by omega) (by omega) (by omega)
  exact ⟨aX h0 h1,aX h2 hj,(OP l _ _ hf).mono fun _ _=>⟨fun _=>r _,fun _=>r _⟩⟩
theorem zw (l:List Com) (st:List Int) (hf:Few l) (hst:st.length≤1000) : ∀ (n:Nat) (out:List Int) (i:Int),0≤i→i≤st.length→out.length≤i→st.length-i<n→Tot (sw n l st out i) fun r=>r.length≤st.length
 | 0,out,i,h0,h1,h2,h=>by omega
 | n+1,out,i,h0,h1,h2,h=>by
  show Tot (qA false some (nO (sw n) FU) l st out i) _
  simp only [qA,tt,il]
  refine ⟨fun hi => ?_,fun _=>by omega⟩
  have hi:i<st.length:=by simpa using hi
  refine ⟨aX h0 hi,_,GZ l _ (by have:=hf.1; omega), ?_⟩
  exact zu l st hf hst _ out i h0 hi h2 (fun out ho=>zw l st hf hst n out (i+1) (by omega) (by omega) (by omega) (by omega)) FU _ 0 (by omega) (by omega) (by rw [bF]; omega)
theorem UX (l:List Com) (st:List Int) (hf:Few l) (hst:st.length≤1000):Tot (qB l st) fun r=>r.length≤st.length:=by
 simp only [qB,AQ]
 exact zw l st hf hst FU [] 0 (by omega) (by omega) (by simp) (by rw [bF]; omega)
theorem w8 (l:List Com) (hf:Few l) (k:dQ (List Int)) (out:List Int) (i:Int) (h0:0≤i) (h1:i<l.length) (ho:out.length≤i) (hk : ∀ out:List Int,out.length≤i+1→Tot (k l out (i+1)) fun r=>r.length≤l.length) : ∀ (n:Nat) (head:Bool) (j:Int),0≤j→j≤l.length→l.length-j<n→Tot (lC k n l out i head j) fun r=>r.length≤l.length
 | 0,ok,j,h2,h3,h=>by omega
 | n+1,ok,j,h2,h3,h=>by
  show Tot (oI false some (lC k n) k l out i ok j) _
  have:=hf.1
  simp only [oI,kq,tt,il]
  rw [aI (n:=i+1) (by omega) (by omega),aI (n:=j+1) (by omega) (by omega)]
  refine ⟨fun hj => ?_,fun _=>⟨fun _=>⟨aX h0 h1,by simp [lm,LIM]; omega,hk _ (by simp; omega)⟩,fun _=>hk out (by omega)⟩⟩
  have hj:j<l.length:=by simpa using hj
  refine ⟨aF fun _=>aX h2 hj,aF fun _=>aX h0 h1,aF fun _=>tg _ _ ?_,w8 l hf k out i h0 h1 ho hk n _ (j+1) (by omega) (by omega) (by omega)⟩
  have:=hf.2 _ (fM (t:=ae) h2 hj)
  omega
theorem w9 (l:List Com) (hf:Few l) : ∀ (n:Nat) (out:List Int) (i:Int),0≤i→i≤l.length→out.length≤i→l.length-i<n→Tot (pX n l out i) fun r=>r.length≤l.length
 | 0,out,i,h0,h1,h2,h=>by omega
 | n+1,out,i,h0,h1,h2,h=>by
  show Tot (oJ false some (lC (pX n) FU) l out i) _
  have:=hf.1
  simp only [oJ,tt,il]
  refine ⟨fun hi => ?_,fun _=>by omega⟩
  have hi:i<l.length:=by simpa using hi
  exact w8 l hf _ out i h0 hi h2 (fun out ho=>w9 l hf n out (i+1) (by omega) (by omega) (by omega) (by omega)) FU _ 0 (by omega) (by omega) (by rw [bF]; omega)
theorem QU (l:List Com) (hf:Few l):Tot (oK l) fun r=>r.length≤l.length:=by
 have:=hf.1
 simp only [oK,w7]
 exact w9 l hf FU [] 0 (by omega) (by omega) (by simp) (by rw [bF]; omega)
end Go.Proofs.YtboikinjlmjgjaaGreat.Abs
