/- Evaluators that always answer: the state at heads; the parts of a deed. -/
import Derived.Test.YtboikinjlmjgjaaGreatTotE
namespace Go.Proofs.YtboikinjlmjgjaaGreat.Abs
open Go
theorem rM (s:Sta) (id f:Int):gQ s id f=[] ∨ ∃ x∈s.1,x.1=id∧x.2.1=f∧x.2.2.1=gQ s id f:=by
 unfold gQ
 cases hq:l7 s id f with
 | nil=>exact .inl rfl
 | cons x r =>
  simp only
  split
  ·rename_i h
   refine .inr ⟨x, ?_,h.1,h.2,rfl⟩
   rw [AR s id f,hq]; simp
  ·exact .inl rfl
theorem ac3 {s:Sta} (hasc:s.1.Pairwise jy) (id f:Int) {l:List Alt} (hne:l≠[]):(nl s id f l).1.Pairwise jy∧(nl s id f l).1.length≤s.1.length+1 ∧ ∀ x∈(nl s id f l).1,(x∈s.1 ∧ ¬ (x.1=id∧x.2.1=f))∨x=(id,f,l,()):=by
 have hs:=AR s id f
 have hp : ∀ x∈cn s id f,ahd x.1 x.2.1 id f=true:=tW _ _
 have hh : ∀ x r,l7 s id f=x::r→ahd x.1 x.2.1 id f=false:=rE _ _
 have he:l.isEmpty=false:=by cases l with | nil=>exact absurd rfl hne | cons _ _=>rfl
 have hps:=hasc
 rw [hs,List.pairwise_append] at hps
 have key : ∀ q',q'.Pairwise jy→(∀ y∈q',y∈s.1∧ahd id f y.1 y.2.1=true)→(cn s id f).length+q'.length≤s.1.length→(cn s id f++[(id,f,l,())]++q').Pairwise jy∧(cn s id f++[(id,f,l,())]++q').length≤s.1.length+1 ∧ ∀ x∈cn s id f++[(id,f,l,())]++q',(x∈s.1 ∧ ¬ (x.1=id∧x.2.1=f))∨x=(id,f,l,()):=by
  intro q' k2 k3 k5
  refine ⟨?_,by simp; omega,fun x hx => ?_⟩
  ·rw [List.append_assoc,List.pairwise_append]
   refine ⟨hps.1, ?_,fun x hx y hy => ?_⟩
   ·rw [List.singleton_append,List.pairwise_cons]
    exact ⟨fun y hy=>(k3 y hy).2,k2⟩
   ·rcases List.mem_append.1 hy with hy | hy
    ·rw [List.mem_singleton.1 hy]; exact hp x hx
    ·exact tO (hp x hx) (k3 y hy).2
  ·simp only [List.mem_append,List.mem_singleton] at hx
   rcases hx with (hx | hx) | hx
   ·refine .inl ⟨by rw [hs]; exact List.mem_append_left _ hx,fun e => ?_⟩
    have:=hp x hx
    rw [e.1,e.2,nc] at this; omega
   ·exact .inr hx
   ·refine .inl ⟨(k3 x hx).1,fun e => ?_⟩
    have:=(k3 x hx).2
    rw [e.1,e.2,nc] at this; omega
 have hlen:(cn s id f).length+(l7 s id f).length=s.1.length:=by rw [← List.length_append, ← hs]
 unfold nl
 simp only [he,Bool.false_eq_true,if_false]
 cases hq:l7 s id f with
 | nil=>exact key [] List.Pairwise.nil (fun y hy=>by cases hy) (by rw [hq] at hlen; simpa using Nat.le_of_eq hlen)
 | cons x r =>
  rw [hq] at hps hlen
  have hx:=hh x r hq
  have hmem : ∀ y∈x::r,y∈s.1:=fun y hy=>by rw [hs,hq]; exact List.mem_append_right _ hy
  have hr:=List.pairwise_cons.1 hps.2.1
  by_cases e:x.1=id∧x.2.1=f
  ·simp only [WR,if_pos e]
   refine key r hr.2 (fun y hy=>⟨hmem y (List.mem_cons_of_mem _ hy), ?_⟩) (by simp at hlen; omega)
   have:=hr.1 y hy
   unfold jy at this
   rwa [e.1,e.2] at this
  ·simp only [WR,if_neg e]
   have h1:ahd id f x.1 x.2.1=true:=agb hx e
   refine key (x::r) hps.2.1 (fun y hy=>⟨hmem y hy, ?_⟩) (by omega)
   rcases List.mem_cons.1 hy with rfl | hy
   ·exact h1
   ·exact tO h1 (hr.1 y hy)
def Alv (T:List Com) (AB:List (List Int)) (st:Int) (id f:Int):Prop := ∀ j<T.length,¬ (T.getD j (zero ae)).1=st→Wr (ws (T.getD j (zero ae))) id f → ¬ st∈AB.getD j []
structure StI (T:List Com) (AB:List (List Int)) (N:Nat) (s:List Slt):Prop where
 asc:s.Pairwise jy
 len:s.length≤N
 alts : ∀ x∈s,x.2.2.1≠[]∧x.2.2.1.length≤N
 srt : ∀ x∈s,x.2.2.1.Pairwise fun a b=>a.1<b.1
 txt : ∀ x∈s,∀ a∈x.2.2.1,TxV a.2.1
 src : ∀ x∈s,∀ a∈x.2.2.1,∃ c∈T,c.1=a.1∧Wr (ws c) x.1 x.2.1∧Alv T AB c.1 x.1 x.2.1
theorem StI.mono {T:List Com} {AB:List (List Int)} {N N':Nat} {s:List Slt} (h:StI T AB N s) (hn:N≤N'):StI T AB N' s :=
 ⟨h.asc,Nat.le_trans h.len hn,fun x hx=>⟨(h.alts x hx).1,Nat.le_trans (h.alts x hx).2 hn⟩,h.srt,h.txt,h.src⟩
theorem StI.place {T:List Com} {AB:List (List Int)} {N:Nat} {s:List Slt} (h:StI T AB N s) (hn:N≤1000000) (id f:Int):cK (s,()) id f=true:=by
 unfold cK af3
 rw [Bool.and_eq_true]
 have:=h.len
 exact ⟨decide_eq_true (show s.length≤1048576 by omega),decide_eq_true h.asc⟩
theorem StI.stg {T:List Com} {AB:List (List Int)} {N:Nat} {s:List Slt} (h:StI T AB N s) (hn:N≤1000000):stG (s,())=true:=by
 unfold stG md
 rw [Bool.and_eq_true]
 have:=h.len
 refine ⟨decide_eq_true (show s.length≤1048576 by omega),List.all_eq_true.2 fun x hx => ?_⟩
 have:=h.alts x hx
 rw [Bool.and_eq_true]
 refine ⟨by cases hq:x.2.2.1 with | nil=>exact absurd hq this.1 | cons _ _=>rfl,decide_eq_true (by omega)⟩
structure Rep0 (T:List Com) (AB:List (List Int)):Prop where
 few:T.length≤20
 asc:T.Pairwise fun a b=>a.1<b.1
 ord : ∀ c∈T,vj (ws c)
 txt : ∀ c∈T,∀ x∈ws c,TxC x
 wl : ∀ c∈T,(ws c).length<1000000
 ab:AB.length=T.length
 al : ∀ r∈AB,r.length<1000000
theorem adx {wp wr:List Cel} {w:Cel} (h:vj (wp++w::wr)) : ¬ Wr wp w.1 w.2.1:=by
 rintro ⟨c,hc,e1,e2⟩
 have:=(List.pairwise_append.1 h).2.2 c hc w (List.mem_cons_self ..)
 rw [e1,e2,nc] at this; omega
theorem Mr {T:List Com} {AB:List (List Int)} (h0:Rep0 T AB) {P R:List Com} {c:Com} (hT:T=P++c::R) {wp wr:List Cel} {w:Cel} (hw:ws c=wp++w::wr) (k0:cd Sta) (k:cF Sta) (Q:Sta→Prop) (N:Nat) (hN:N≤500000) (b:List Slt) (hb:StI T AB N b)
  (hst : ∀ x∈b,∀ a∈x.2.2.1,a.1≤c.1∧(a.1=c.1→Wr wp x.1 x.2.1))
  (hk : ∀ b',StI T AB (N+1) b'→(∀ x∈b',∀ a∈x.2.2.1,a.1≤c.1∧(a.1=c.1→Wr (wp++[w]) x.1 x.2.1))→Tot (k T AB P.length ((wp.length:Int)+1) b') Q) :
  ∀ (n:Nat) (al:Bool) (j:Nat),j≤T.length→T.length-j<n→(al=true → ∀ j'<j,¬ (T.getD j' (zero ae)).1=c.1→Wr (ws (T.getD j' (zero ae))) w.1 w.2.1 → ¬ c.1∈AB.getD j' [])→Tot (gA k0 k n T AB P.length wp.length b al j) Q
 | 0,al,j,h1,h2,h3=>by omega
 | n+1,al,j,h1,h2,h3=>by
  show Tot (iU false some (gA k0 k n) k T AB P.length wp.length b al j) _
  have hPi:(P.length:Int)<T.length:=by rw [hT]; simp; omega
  have ec:ix ae T (P.length:Int)=c:=by rw [hT]; exact bQ (t:=ae) P c R
  have ew:ix ac c.2.2.2.2.1 (wp.length:Int)=w:=by
   show ix ac (ws c) _=w
   rw [hw]; exact bQ (t:=ac) wp w wr
  have hwl:(ws c).length<1000000:=h0.wl c (by rw [hT]; simp)
  have hwp:wp.length<1000000:=by rw [hw] at hwl; simp at hwl; omega
  have hfew:=h0.few
  simp only [iU,dI,tt,il,List.nil_append]
  rw [ec,ew,aI (n:=(wp.length:Int)+1) (by omega) (by omega),aI (n:=(j:Int)+1) (by omega) (by omega)]
  refine ⟨fun hj => ?_,fun hj=>⟨fun ha => ?_,fun _ => ?_⟩⟩
  ·have hja:j<T.length∧al=true:=by
    simp only [Bool.cond_false_right,Bool.and_eq_true,decide_eq_true_eq] at hj; exact ⟨by omega,hj.2⟩
   have hjt:(j:Int)<T.length:=by omega
   have hjn:=hja.1
   have etj:ix ae T (j:Int)=T.getD j (zero ae):=rfl
   have eaj:ix (.slice aa) AB (j:Int)=AB.getD j []:=rfl
   have hmem:T.getD j (zero ae)∈T:=fM (t:=ae) (by omega) hjt
   have hwr:=ET (T.getD j (zero ae)) w.1 w.2.1 (h0.wl _ hmem)
   have hal:(AB.getD j []).length<1000000:=h0.al _ (by rw [List.getD_eq_getElem?_getD,List.getElem?_eq_getElem (by rw [h0.ab]; exact hjn)]; exact List.getElem_mem _)
   rw [etj,eaj,NF _ _ hal]
   have hG:BN (T.getD j (zero ae)) w.1 w.2.1=true:=hwr.some
   have hF:eq (T.getD j (zero ae)) w.1 w.2.1=true↔Wr (ws (T.getD j (zero ae))) w.1 w.2.1:=hwr.getD (zero .bool)
   refine ⟨aF fun _=>aX (by omega) hjt,aF fun _=>hG,aF fun _=>aX (by omega) (by rw [h0.ab]; omega),aF fun _=>aX (by omega) hPi,aF fun _=>tg _ _ hal, ?_⟩
   refine Mr h0 hT hw k0 k Q N hN b hb hst hk n _ (j+1) (by omega) (by omega) fun ha j' hj' hne hW => ?_
   by_cases e:j'=j
   ·subst e
    have hji : ¬ (j':Int)=P.length:=fun e=>hne (by rw [← etj,e,ec])
    rw [hF.2 hW] at ha
    simpa [hji] using ha
   ·exact h3 hja.2 j' (by omega) hne hW
  ·subst ha
   have hjl:T.length≤j:=by
    by_cases e:j<T.length
    ·simp [show (j:Int)<T.length by omega] at hj
    ·omega
   have halv:Alv T AB c.1 w.1 w.2.1:=fun j' hj'=>h3 rfl j' (by omega)
   have hpl:=hb.place (by omega) w.1 w.2.1
   have hlenA:(gQ (b,()) w.1 w.2.1).length≤N:=by
    rcases rM (b,()) w.1 w.2.1 with e | ⟨x,hx,_,_,e⟩
    ·rw [e]; simp
    ·rw [← e]; exact (hb.alts x hx).2
   have hlt : ∀ a∈gQ (b,()) w.1 w.2.1,a.1<c.1:=fun a ha=>by
    rcases rM (b,()) w.1 w.2.1 with e | ⟨x,hx,e1,e2,e⟩
    ·rw [e] at ha; cases ha
    ·rw [← e] at ha
     have h1:=hst x hx a ha
     by_cases h2:a.1=c.1
     ·have:=h1.2 h2
      rw [e1,e2] at this
      exact absurd this (adx (hw ▸ h0.ord c (by rw [hT]; simp)))
     ·exact Int.lt_iff_le_and_ne.2 ⟨h1.1,h2⟩
   have hset:=ac3 hb.asc w.1 w.2.1 (s:=(b,())) (l:=gQ (b,()) w.1 w.2.1++[(c.1,w.2.2.1,())]) (by simp)
   have hin : ∀ x∈(nl (b,()) w.1 w.2.1 (gQ (b,()) w.1 w.2.1++[(c.1,w.2.2.1,())])).1,x∈b∨x=(w.1,w.2.1,gQ (b,()) w.1 w.2.1++[(c.1,w.2.2.1,())],()):=fun x hx=>(hset.2.2 x hx).imp (·.1) id
   have hold : ∀ a∈gQ (b,()) w.1 w.2.1,∃ x∈b,x.1=w.1∧x.2.1=w.2.1∧a∈x.2.2.1:=fun a ha=>by
    rcases rM (b,()) w.1 w.2.1 with e | ⟨x,hx,e1,e2,e⟩
    ·rw [e] at ha; cases ha
    ·exact ⟨x,hx,e1,e2,e ▸ ha⟩
   refine ⟨hpl,dP (by simp; omega),aX (by omega) hPi,dP (by simp; omega),hpl,hk _ ⟨hset.1,Nat.le_trans hset.2.1 (by have:=hb.len; simp; omega),fun x hx => ?_,fun x hx => ?_,fun x hx a ha => ?_,fun x hx a ha => ?_⟩ fun x hx a ha => ?_⟩
   ·rcases hin x hx with hx | rfl
    ·exact ⟨(hb.alts x hx).1,Nat.le_succ_of_le (hb.alts x hx).2⟩
    ·exact ⟨by simp,by simp; omega⟩
   ·rcases hin x hx with hx | rfl
    ·exact hb.srt x hx
    ·show (gQ (b,()) w.1 w.2.1++[(c.1,w.2.2.1,())]).Pairwise _
     rw [List.pairwise_append]
     refine ⟨?_,by simp,fun a ha d hd => ?_⟩
     ·rcases rM (b,()) w.1 w.2.1 with e | ⟨x,hx,e1,e2,e⟩
      ·rw [e]; exact List.Pairwise.nil
      ·rw [← e]; exact hb.srt x hx
     ·rw [List.mem_singleton.1 hd]; exact hlt a ha
   ·rcases hin x hx with hx | rfl
    ·exact hb.txt x hx a ha
    ·rcases List.mem_append.1 ha with ha | ha
     ·obtain ⟨y,hy,_,_,h⟩:=hold a ha
      exact hb.txt y hy a h
     ·rw [List.mem_singleton.1 ha]
      exact h0.txt c (by rw [hT]; simp) w (by rw [hw]; simp)
   ·rcases hin x hx with hx | rfl
    ·exact hb.src x hx a ha
    ·rcases List.mem_append.1 ha with ha | ha
     ·obtain ⟨y,hy,e1,e2,h⟩:=hold a ha
      have:=hb.src y hy a h
      rwa [e1,e2] at this
     ·rw [List.mem_singleton.1 ha]
      exact ⟨c,by rw [hT]; simp,rfl,⟨w,by rw [hw]; simp,rfl,rfl⟩,halv⟩
   ·rcases hin x hx with hx | rfl
    ·have:=hst x hx a ha
     refine ⟨this.1,fun e => ?_⟩
     obtain ⟨d,hd,h⟩:=this.2 e
     exact ⟨d,List.mem_append_left _ hd,h⟩
    ·rcases List.mem_append.1 ha with ha | ha
     ·have:=hlt a ha
      exact ⟨Int.le_of_lt this,fun e=>absurd e (Int.ne_of_lt this)⟩
     ·rw [List.mem_singleton.1 ha]
      exact ⟨Int.le_refl _,fun _=>⟨w,by simp,rfl,rfl⟩⟩
  ·exact hk b (hb.mono (by omega)) fun x hx a ha=>⟨(hst x hx a ha).1,fun e=>by
    obtain ⟨d,hd,h⟩:=(hst x hx a ha).2 e
    exact ⟨d,List.mem_append_left _ hd,h⟩⟩
def dl:List Com→Nat
 | []=>0
 | c::l=>(ws c).length+dl l
theorem dG (a b:List Com):dl (a++b)=dl a+dl b:=by
 induction a with
 | nil=>simp [dl]
 | cons c a ih=>simp [dl,ih]; omega
theorem Ms {T:List Com} {AB:List (List Int)} (h0:Rep0 T AB) {P R:List Com} {c:Com} (hT:T=P++c::R) (k0:cd Sta) (Q:Sta→Prop) (M:Nat) (hM:M≤500000) (hk : ∀ b',StI T AB M b'→(∀ x∈b',∀ a∈x.2.2.1,a.1≤c.1)→Tot (k0 T AB ((P.length:Int)+1) b') Q) :
  ∀ (n:Nat) (wr wp:List Cel) (N:Nat) (b:List Slt),ws c=wp++wr→wr.length<n→N+wr.length≤M→StI T AB N b→(∀ x∈b,∀ a∈x.2.2.1,a.1≤c.1∧(a.1=c.1→Wr wp x.1 x.2.1))→Tot (gC k0 n T AB P.length wp.length b) Q
 | 0,wr,wp,N,b,h1,h2,h3,h4,h5=>by omega
 | n+1,wr,wp,N,b,h1,h2,h3,h4,h5=>by
  show Tot (iV false some (gA k0 (gC k0 n) FU) k0 T AB P.length wp.length b) _
  have hfew:=h0.few
  have hPi:(P.length:Int)<T.length:=by rw [hT]; simp; omega
  have ec:ix ae T (P.length:Int)=c:=by rw [hT]; exact bQ (t:=ae) P c R
  have hwl:(ws c).length<1000000:=h0.wl c (by rw [hT]; simp)
  simp only [iV,tt,il]
  rw [ec,aI (n:=(P.length:Int)+1) (by omega) (by omega)]
  show bd _ _=true∧(decide ((wp.length:Int)<((ws c).length:Int))=true→bd _ _=true∧bd (wp.length:Int) (ws c).length=true∧_)∧(decide ((wp.length:Int)<((ws c).length:Int))=false→_)
  refine ⟨aX (by omega) hPi,fun h=>⟨aX (by omega) hPi,aX (by omega) (by simpa using h), ?_⟩,fun _=>hk b (h4.mono (by omega)) fun x hx a ha=>(h5 x hx a ha).1⟩
  cases wr with
  | nil=>rw [h1] at h; simp at h
  | cons w wr =>
   refine Mr h0 hT h1 k0 _ Q N (by omega) b h4 h5 (fun b' hb' hst => ?_) FU true 0 (by omega) (by rw [bF]; omega) (fun _ j' hj'=>by omega)
   have:=Ms h0 hT k0 Q M hM hk n wr (wp++[w]) (N+1) b' (by rw [h1]; simp) (by simp at h2; omega) (by simp at h3; omega) hb' hst
   simpa using this
theorem Mt {T:List Com} {AB:List (List Int)} (h0:Rep0 T AB) (hM:dl T≤500000) : ∀ (n:Nat) (R P:List Com) (b:List Slt),T=P++R→R.length<n→StI T AB (dl P) b→(∀ x∈b,∀ a∈x.2.2.1,∀ d∈R,a.1<d.1)→Tot (gD n T AB P.length b) fun s=>StI T AB (dl T) s.1
 | 0,R,P,b,h1,h2,h3,h4=>by omega
 | n+1,R,P,b,h1,h2,h3,h4=>by
  show Tot (iW false some (gC (gD n) FU) T AB P.length b) _
  have hws:dl P+dl R=dl T:=by rw [h1,dG]
  simp only [iW,tt,il]
  refine ⟨fun h => ?_,fun _=>h3.mono (by omega)⟩
  cases R with
  | nil=>rw [h1] at h; simp at h
  | cons c R =>
   simp only [dl] at hws
   have hwl:(ws c).length<1000000:=h0.wl c (by rw [h1]; simp)
   have hasc:=h0.asc
   rw [h1,List.pairwise_append] at hasc
   have hcR:=(List.pairwise_cons.1 hasc.2.1).1
   refine Ms h0 h1 _ _ (dl P+(ws c).length) (by omega) (fun b' hb' hst => ?_) FU (ws c) [] (dl P) b rfl (by rw [bF]; omega) (by omega) h3 fun x hx a ha => ?_
   ·have:=Mt h0 hM n R (P++[c]) b' (by rw [h1]; simp) (by simp at h2; omega) (by rw [dG]; simpa [dl] using hb') fun x hx a ha d hd=>Int.lt_of_le_of_lt (hst x hx a ha) (hcR d hd)
    simpa using this
   ·have:=h4 x hx a ha c (List.mem_cons_self ..)
    exact ⟨Int.le_of_lt this,fun e=>absurd e (Int.ne_of_lt this)⟩
end Go.Proofs.YtboikinjlmjgjaaGreat.Abs
namespace Go.Proofs.YtboikinjlmjgjaaGreat.Abs
open Go
theorem GM {α:Type} (a b:List α) (d:α) {j:Nat} (h:j<a.length):(a++b).getD j d=a.getD j d:=by simp [List.getD_eq_getElem?_getD,List.getElem?_append_left h]
theorem GN {α:Type} (a:List α) (x d:α):(a++[x]).getD a.length d=x:=by simp [List.getD_eq_getElem?_getD]
structure H0 (l:List Com):Prop where
 few:l.length≤20
 asc:l.Pairwise fun a b=>a.1<b.1
 par : ∀ c∈l,c.2.1.length≤4
 ord : ∀ c∈l,vj (ws c)
 txt : ∀ c∈l,∀ x∈ws c,TxC x
 sum:dl l≤500000
theorem H0.isFew {l:List Com} (h:H0 l):Few l:=⟨h.few,h.par⟩
theorem qo {l:List Com} {c:Com} (h:c∈l):(ws c).length≤dl l:=by
 induction l with
 | nil=>cases h
 | cons d l ih =>
  simp only [dl]
  rcases List.mem_cons.1 h with rfl | h
  ·omega
  ·have:=ih h; omega
def AtP (l:List Com) (s:Sta):Prop := ∃ T AB,(∀ c∈T,c∈l)∧(∀ j<T.length,acG l [(T.getD j (zero ae)).1] (AB.getD j []))∧StI T AB (dl l) s.1
theorem Th (l:List Com) (hl:H0 l) (only:List Int) (ho:only.length<1000000) : ∀ (n:Nat) (R P T:List Com) (AB:List (List Int)),l=P++R→R.length<n→(∀ c∈T,c∈P)→(T.Pairwise fun a b=>a.1<b.1)→T.length≤P.length→dl T≤dl P→AB.length=T.length→(∀ j<T.length,acG l [(T.getD j (zero ae)).1] (AB.getD j []))→(∀ r∈AB,r.length<1000000)→Tot (iT n l only T AB P.length) (AtP l)
 | 0,R,P,T,AB,h1,h2,_,_,_,_,_,_,_=>by omega
 | n+1,R,P,T,AB,h1,h2,h3,h4,h5,h6,h7,h8,h9=>by
  show Tot (k7 false some (iT n) (gD FU) l only T AB P.length) _
  have hfew:=hl.few
  have hws:dl P+dl R=dl l:=by rw [h1,dG]
  have hsum:=hl.sum
  have hP:P.length≤20:=by rw [h1] at hfew; simp at hfew; omega
  simp only [k7,eH,tt,il]
  rw [aI (n:=(P.length:Int)+1) (by omega) (by omega)]
  refine ⟨fun h => ?_,fun _ => ?_⟩
  ·cases R with
   | nil=>rw [h1] at h; simp at h
   | cons c R =>
    have hPl:(P.length:Int)<l.length:=by simpa using h
    have ec:ix ae l (P.length:Int)=c:=by rw [h1]; exact bQ (t:=ae) P c R
    have hcl:c∈l:=by rw [h1]; simp
    have hasc:=hl.asc
    rw [h1,List.pairwise_append] at hasc
    have next : ∀ (T:List Com) (AB:List (List Int)),(∀ c'∈T,c'∈P++[c])→(T.Pairwise fun a b=>a.1<b.1)→T.length≤P.length+1→dl T≤dl (P++[c])→AB.length=T.length→(∀ j<T.length,acG l [(T.getD j (zero ae)).1] (AB.getD j []))→(∀ r∈AB,r.length<1000000)→Tot (iT n l only T AB ((P.length:Int)+1)) (AtP l):=fun T AB a1 a2 a3 a4 a5 a6 a7=>by
     have:=Th l hl only ho n R (P++[c]) T AB (by rw [h1]; simp) (by simp at h2; omega) a1 a2 (by simpa using a3) a4 a5 a6 a7
     simpa using this
    rw [ec]
    refine ⟨aX (by omega) hPl,_,I3 only _ ho,fun _=>⟨aX (by omega) hPl,dP (by simp; omega),aX (by omega) hPl,(EJ l [c.1] hl.isFew (by simp)).mono fun r hr=>⟨dP (by simp; omega),next _ _ (fun d hd => ?_) ?_ (by simp; omega) (by rw [dG,dG]; simp [dl]; omega) (by simp; omega) (fun j hj => ?_) (fun r' hr' => ?_)⟩⟩,fun _=>next T AB (fun d hd=>List.mem_append_left _ (h3 d hd)) h4 (by omega) (by rw [dG]; omega) h7 h8 h9⟩
    ·rcases List.mem_append.1 hd with hd | hd
     ·exact List.mem_append_left _ (h3 d hd)
     ·exact List.mem_append_right _ hd
    ·rw [List.pairwise_append]
     exact ⟨h4,by simp,fun a ha b hb=>hasc.2.2 a (h3 a ha) b (by rw [List.mem_singleton.1 hb]; simp)⟩
    ·by_cases e:j<T.length
     ·rw [GM _ _ _ e,GM _ _ _ (by omega)]; exact h8 j e
     ·have e:j=T.length:=by simp at hj; omega
      subst e
      rw [GN, ← h7,GN]
      exact hr.2
    ·rcases List.mem_append.1 hr' with h | h
     ·exact h9 r' h
     ·rw [List.mem_singleton.1 h]; have:=hr.1; omega
  ·have hTl : ∀ c∈T,c∈l:=fun c hc=>by rw [h1]; exact List.mem_append_left _ (h3 c hc)
   have h0:Rep0 T AB:=⟨by omega,h4,fun c hc=>hl.ord c (hTl c hc),fun c hc=>hl.txt c (hTl c hc),fun c hc=>by have:=qo (hTl c hc); omega,h7,h9⟩
   exact (Mt h0 (by omega) FU T [] [] rfl (by rw [bF]; omega) ⟨List.Pairwise.nil,by simp,fun x hx=>(by cases hx),fun x hx=>(by cases hx),fun x hx=>(by cases hx),fun x hx=>(by cases hx)⟩ fun x hx=>by cases hx).mono fun s hs=>⟨T,AB,hTl,h8,hs.mono (by omega)⟩
theorem Mn (l:List Com) (hl:H0 l) (only:List Int) (ho:only.length<1000000):Tot (k8 l only) (AtP l):=by
 have:=hl.few
 simp only [k8,sF]
 exact Th l hl only ho FU l [] [] [] rfl (by rw [bF]; omega) (fun c hc=>by cases hc) List.Pairwise.nil (by simp) (by simp [dl]) rfl (fun j hj=>by simp at hj) fun r hr=>by cases hr
theorem zg (l:List Com) (hl:H0 l) (heads:List Int) (hh:heads.length≤1000):Tot (l9 l heads) (AtP l):=by
 simp only [l9,BC,tt]
 exact (EJ l heads hl.isFew hh).mono fun r hr=>(Mn l hl r (by have:=hr.1; omega)).mono fun _ h=>h
theorem af2 (l:List Com) (hl:H0 l):Tot (EG l) (AtP l):=by
 have:=hl.few
 simp only [EG,Ut,tf,xa,tt]
 exact (QU l hl.isFew).mono fun r hr=>(zg l hl r (by omega)).mono fun _ h=>h
theorem cA (x n:Int) (h1:1≤n) (h2:n≤4000000000):Tot (bC x n) fun r=>0≤r∧r<n:=by
 simp only [bC,IO,tt]
 have a1:=Int.tmod_lt_of_pos x (show 0<n by omega)
 have a2 : -n<x.tmod n:=by
  have:=Int.tmod_lt_of_pos (-x) (show 0<n by omega)
  rw [Int.neg_tmod] at this
  omega
 refine ⟨fun h=>by simp at h; omega,fun _=>⟨by simp; omega,by simp; omega, ?_⟩⟩
 rw [aI (by omega) (by omega)]
 exact ⟨Int.tmod_nonneg _ (by omega),Int.tmod_lt_of_pos _ (by omega)⟩
theorem ke (l:List Int) (x:Int) (hs:l.length<1000000):Tot (bK l x) fun r=>r=0∨r∈l:=by
 simp only [bK,AX,tt,il]
 refine ⟨fun _ => .inl trivial,fun h => ?_⟩
 have h : ¬ (l.length:Int)=0:=by simpa using h
 exact (cA x l.length (by omega) (by omega)).mono fun r hr=>⟨aX hr.1 hr.2,.inr (fM (t:=aa) hr.1 hr.2)⟩
def Sh (s:Str):Prop:=s.length<1000
theorem se (k x:Int):Tot (iI k x) Sh:=by
 simp only [iI,AM,tt]
 refine (cA x 5 (by omega) (by omega)).mono fun r _ => ?_
 simp [Sh]
theorem LQ (x:Int):Tot (kN x) Sh:=by
 simp only [kN,sr,tt]
 refine (cA x 5 (by omega) (by omega)).mono fun r _ => ?_
 simp [Sh]
theorem Df (x:Int):Tot (pN x) Sh:=by
 simp only [pN,IQ,tt]
 exact (cA x 26 (by omega) (by omega)).mono fun r _=>⟨by decide,(cA _ 25 (by omega) (by omega)).mono fun r _=>by simp [Sh]⟩
structure St1 (s:Sta):Prop where
 asc:s.1.Pairwise jy
 len:s.1.length<1000000
 alts : ∀ x∈s.1,x.2.2.1≠[]∧x.2.2.1.length<1000000
 txt : ∀ x∈s.1,∀ a∈x.2.2.1,TxV a.2.1
theorem AtP.st1 {l:List Com} {s:Sta} (h:AtP l s) (hl:H0 l):St1 s:=by
 obtain ⟨T,AB,_,_,h⟩:=h
 have:=hl.sum
 exact ⟨h.asc,by have:=h.len; omega,fun x hx=>⟨(h.alts x hx).1,by have:=(h.alts x hx).2; omega⟩,h.txt⟩
theorem St1.place {s:Sta} (h:St1 s) (id f:Int):cK s id f=true:=by
 unfold cK af3
 rw [Bool.and_eq_true]
 have:=h.len
 exact ⟨decide_eq_true (by omega),decide_eq_true h.asc⟩
theorem St1.stg {s:Sta} (h:St1 s):stG s=true:=by
 unfold stG md
 rw [Bool.and_eq_true]
 have:=h.len
 refine ⟨decide_eq_true (by omega),List.all_eq_true.2 fun x hx => ?_⟩
 have:=h.alts x hx
 rw [Bool.and_eq_true]
 refine ⟨by cases hq:x.2.2.1 with | nil=>exact absurd hq this.1 | cons _ _=>rfl,decide_eq_true (by omega)⟩
theorem Xi:TxV (0,false,[],0,()):=by simp [TxV]
theorem Vm {s:Sta} (h:St1 s) (id f:Int):Tot (fp s id f) TxV:=by
 simp only [fp,AW,tt,il]
 refine ⟨h.place id f,fun _=>Xi,fun hn => ?_⟩
 have hn : ¬ ((gQ s id f).length:Int)=0:=by simpa using hn
 refine ⟨aX (by omega) (by omega), ?_⟩
 rcases rM s id f with e | ⟨x,hx,_,_,e⟩
 ·rw [e] at hn; simp at hn
 ·exact h.txt x hx _ (by rw [e]; exact fM (t:=aK) (by omega) (by omega))
theorem YP {s:Sta} (h:St1 s):(∀ c∈(bJ s).1,TxC c ∧ ∃ x∈s.1,x.1=c.1∧x.2.1=c.2.1)∧(bJ s).1.length≤s.1.length:=by
 refine ⟨fun c hc => ?_,oq s⟩
 simp only [bJ,List.mem_map,List.mem_filter] at hc
 obtain ⟨x,⟨hx,_⟩,rfl⟩:=hc
 refine ⟨?_,x,hx,rfl,rfl⟩
 show TxV (p5 x)
 unfold p5
 cases hq:x.2.2.1 with
 | nil=>exact Xi
 | cons a r=>exact h.txt x hx a (by rw [hq]; simp)
theorem lS {s:Sta} (h:St1 s) (kind:Int) : ∀ (n:Nat) (out:List Int) (i:Int),0≤i→i≤s.1.length→out.length≤i→s.1.length-i<n→Tot (iF n kind s out i) fun r=>r.length≤s.1.length
 | 0,out,i,h0,h1,h2,h3=>by omega
 | n+1,out,i,h0,h1,h2,h3=>by
  show Tot (gN false some (iF n) kind s out i) _
  have hl:=h.len
  simp only [gN,gO,tt,il]
  refine ⟨fun hi => ?_,fun _=>by omega⟩
  have hi:i<s.1.length:=by simpa using hi
  rw [aI (n:=i+1) (by omega) (by omega)]
  exact ⟨aX h0 hi,aF fun _=>aX h0 hi,aF fun _=>(sV s _ (h.place _ 1)).some,aF fun _=>by simp [aS],fun _=>⟨aX h0 hi,dP (by simp; omega),lS h kind n _ _ (by omega) (by omega) (by simp; omega) (by omega)⟩,fun _=>lS h kind n _ _ (by omega) (by omega) (by omega) (by omega)⟩
theorem d7 {s:Sta} (h:St1 s) (kind:Int):Tot (bw s kind) fun r=>r.length≤s.1.length:=by
 have hl:=h.len
 simp only [bw,m4]
 exact lS h kind FU [] 0 (by omega) (by omega) (by simp) (by rw [bF]; omega)
theorem Mc (v:Val) {s:Sta} (h:St1 s) (x:Int):Tot (eD v s x) TxV:=by
 have hl:=h.len
 have ent:=fun k (Q:Int→Prop) (y:Int) (hQ : ∀ r,Q r)=>(d7 h k).mono fun r hr=>(ke r y (by omega)).mono fun r _=>hQ r
 simp only [eD,sz,tt]
 refine ⟨fun _=>(cA x 4 (by omega) (by omega)).mono fun r _=>⟨fun _=>by simp [TxV],fun _=>⟨fun _=>by simp [TxV],fun _=>⟨fun _=>⟨by decide,(se _ _).mono fun t ht=>ht⟩,fun _ => ?_⟩⟩⟩,fun _=>⟨fun _=>(cA x 2 (by omega) (by omega)).mono fun r _=>⟨fun _=>by simp [TxV],fun _=>by simp [TxV]⟩,fun _=>⟨fun _=>(se _ _).mono fun t ht=>ht,fun _=>(cA x 6 (by omega) (by omega)).mono fun r _=>⟨fun _=>by simp [TxV],fun _=>⟨fun _=>by simp [TxV],fun _=>⟨fun _ => ?_,fun _=>⟨fun _ => ?_,fun _=>⟨fun _=>by simp [TxV],fun _=>by simp [TxV]⟩⟩⟩⟩⟩⟩⟩⟩
 ·exact (d7 h 3).mono fun r hr=>⟨by decide,(ke r _ (by omega)).mono fun r _=>⟨fun _=>by simp [TxV],fun _=>by simp [TxV]⟩⟩
 ·exact (d7 h 4).mono fun r hr=>⟨by decide,(ke r _ (by omega)).mono fun r _=>⟨fun _=>by simp [TxV],fun _=>by simp [TxV]⟩⟩
 ·exact (d7 h 2).mono fun r hr=>⟨by decide,(ke r _ (by omega)).mono fun r _=>⟨fun _=>⟨by decide,(cA _ 3 (by omega) (by omega)).mono fun _ _=>by simp [TxV]⟩,fun _=>by simp [TxV]⟩⟩
end Go.Proofs.YtboikinjlmjgjaaGreat.Abs
