/- Masks are sound. -/
import Derived.Test.YtboikinjlmjgjaaGreatAbsR
namespace Go.Proofs.YtboikinjlmjgjaaGreat.Abs
open Go Go.RowKit
section
variable {B:Bd} {w0:World} {St0:Sb} {c:Gh} {h0:Nat}
def zy (c:Gh) (H:List HO) (s:Value):Prop :=
 s.ownBlock=none ∨ ∃ k,c.rv k=s∧((∃ t e v0 v,c.heap[k]? = some (.row t e v0)∧H[k]? = some (.row t e v)∧v0<v)∨(∃ t e v l,c.heap[k]? = some (.mrow t e v l)∧H[k]? = some .dead))
def age (B:Bd) (c:Gh) (t:Ty) (e:TypeId) (l:List t.den) (s:Value):Prop :=
 ∃ xs,c.w.ownsRow B e t.size s l.length xs∧Rep c.w c.St (bA (toD t) l) xs ∧ ∀ b,s.ownBlock=some b → ∀ o,¬ c.St b o
def Hl (B:Bd) (c:Gh) (H:List HO):LE→Value→Prop
 | .own t e,s=>(∃ n xs,c.w.ownsRow B e t.size s n xs ∧ ∀ b,s.ownBlock=some b → ∀ o,n * t.size≤o → ¬ c.St b o)∧zy c H s
 | .mut t e ko l,s=>age B c t e l s∧zy c H s ∧ ∀ k v,ko=some (k,v)→c.heap[k]? = some (.mrow t e v l)∧c.rv k=s
 | .frz t e ko l,s=>age B c t e l s∧zy c H s ∧ ∀ k v,ko=some (k,v)→c.heap[k]? = some (.mrow t e v l)∧c.rv k=s
structure CInv (B:Bd) (c:Gh) (H:List HO) (L:List LE) (V:List Value):Prop where
 len:H.length=c.heap.length
 lv:L.length=V.length
 box : ∀ (k:Nat) (cells:List AV),H[k]? = some (.box cells)↔c.heap[k]? = some (.box cells)
 row : ∀ (k:Nat) t e v,H[k]? = some (.row t e v) → ∃ v0,c.heap[k]? = some (.row t e v0)∧v0≤v
 back : ∀ (k:Nat) t e v0,c.heap[k]? = some (.row t e v0) → ∃ v,H[k]? = some (.row t e v)∧v0≤v
 claim : ∀ (i:Nat) le s,L[i]? = some le→V[i]? = some s→Hl B c H le s
 dist : ∀ (i j:Nat) s s' b,i≠j→V[i]? = some s→V[j]? = some s'→s.ownBlock=some b→s'.ownBlock≠some b
 mrow : ∀ (k:Nat) t e v l,H[k]? = some (.mrow t e v l)→c.heap[k]? = some (.mrow t e v l)
 mback : ∀ (k:Nat) t e v l,c.heap[k]? = some (.mrow t e v l)→H[k]? = some (.mrow t e v l)∨H[k]? = some HO.dead
 dead : ∀ (k:Nat),c.heap[k]? = some HO.dead→H[k]? = some HO.dead
structure Fin (c c':Gh) (h0:Nat) (L:List LE) (V:List Value):Prop where
 w:c'.w=c.w
 St : ∀ b o,c'.St b o↔(c.St b o ∨ ∃ (i:Nat) (t:Ty) (e:TypeId) (ko:Option (Nat×Nat)) (l:List t.den) (s:Value),L[i]? = some (.frz t e ko l)∧V[i]? = some s∧s.ownBlock=some b)
 blk:c'.blk=c.blk
 lp:c'.lp=c.lp
 box : ∀ (k:Nat) (cells:List AV),k<h0→c.heap[k]? = some (.box cells) → ∃ cells',c'.heap[k]? = some (.box cells')
 row : ∀ (k:Nat) t e v0,k<h0→c.heap[k]? = some (.row t e v0) → ∃ v,c'.heap[k]? = some (.row t e v)∧v0≤v∧(v=v0→c'.rv k=c.rv k)
 new : ∀ (i:Nat) le s,L[i]? = some le→V[i]? = some s→c'.heap[h0+i]? = some le.ho∧c'.rv (h0+i)=s
 mrow : ∀ (k:Nat) t e v l,k<h0→c.heap[k]? = some (.mrow t e v l)→(c'.heap[k]? = some (.mrow t e v l)∧c'.rv k=c.rv k)∨c'.heap[k]? = some HO.dead
 dead : ∀ (k:Nat),k<h0→c.heap[k]? = some HO.dead→c'.heap[k]? = some HO.dead
 j:c'.St.j=c.St.j
def anp (c:Gh) (h0:Nat) (L:List LE) (V:List Value) (a:AV) (v:Value):Prop :=
 ∀ c' Lf Vf,Fin c c' h0 Lf Vf→L <+: Lf→V <+: Vf→RA c' a [v]
theorem cj {α:Type} {l l':List α} (h:l <+: l') {i:Nat} {x:α} (hx:l[i]? = some x):l'[i]? = some x:=by
 obtain ⟨r,rfl⟩:=h
 rw [List.getElem?_append_left (aE hx)]
 exact hx
theorem Fin.st {c':Gh} {L:List LE} {V:List Value} (h:Fin c c' h0 L V):c.St.le c'.St:=⟨fun b o x=>(h.St b o).2 (.inl x),fun b e cap n x=>by rw [h.j]; exact x⟩
theorem Fin.cell {c':Gh} {L:List LE} {V:List Value} (h:Fin c c' h0 L V) : ∀ (a:Addr) v,c.St a.block a.off→a.spot=none→c.w.cell? a=some v→c'.w.cell? a=some v:=fun a v _ _ x=>by rw [h.w]; exact x
theorem Fin.mutAt {c':Gh} {L:List LE} {V:List Value} (h:Fin c c' h0 L V) {k v:Nat} {Q:Value→Ty→Prop} (hu:k<h0) (m:ql c k v (Q (c.rv k))):ql c' k v (Q (c'.rv k)):=by
 rcases m with ⟨t,e,v',l,hk,hle,hq⟩ | hd
 ·rcases h.mrow k t e v' l hu hk with ⟨h1,h2⟩ | h1
  ·exact .inl ⟨t,e,v',l,h1,hle,fun e=>by rw [h2]; exact hq e⟩
  ·exact .inr h1
 ·exact .inr (h.dead k hu hd)
theorem Fin.keep {c':Gh} {L:List LE} {V:List Value} (h:Fin c c' h0 L V) : ∀ {a:AV} {vs:List Value},a.under h0=true→RA c a vs→RA c' a vs
 | .unk,_,_,r=>r
 | .val t x,_,_,⟨v,e,r⟩=>⟨v,e,r.mono h.st h.cell⟩
 | .nil,_,_,r=>r
 | .own k v t l,_,hu,⟨s,e,r,t',e',v',hr,hle,heq⟩=>by
  simp only [AV.under,decide_eq_true_eq] at hu
  obtain ⟨v2,h2,l2,q2⟩:=h.row k t' e' v' hu hr
  exact ⟨s,e,r.mono h.st h.cell,t',e',v2,h2,Nat.le_trans hle l2,fun x=>(heq (by omega)).trans (q2 (by omega)).symm⟩
 | .ref t x,_,_,⟨ad,ds,e,hs,hd,hc⟩=>⟨ad,ds,e,hs,hd.mono h.st h.cell,fun j u hu=>⟨by rw [h.w]; exact (hc j u hu).1,h.st.s _ _ (hc j u hu).2⟩⟩
 | .box k off,_,hu,⟨cells,hk,e⟩=>by
  simp only [AV.under,decide_eq_true_eq] at hu
  obtain ⟨c2,h2⟩:=h.box k cells hu hk
  exact ⟨c2,h2,by rw [h.blk]; exact e⟩
 | .fn f caps,_,hu,⟨cs,e,r,o⟩=>⟨cs,e,h.keep (a:=caps) hu r,o⟩
 | .agg p,_,hu,⟨cs,e,r,o⟩=>⟨cs,e,h.keep (a:=p) hu r,o⟩
 | .tup p,_,hu,⟨cs,e,r,o⟩=>⟨cs,e,h.keep (a:=p) hu r,o⟩
 | .pnil,_,_,r=>r
 | .pcons a b,_,hu,⟨v,r,e,ha,hb⟩=>by
  simp only [AV.under,Bool.and_eq_true] at hu
  exact ⟨v,r,e,h.keep hu.1 ha,h.keep hu.2 hb⟩
 | .cond g a,vs,hu,r=>by
  simp only [RA] at r ⊢
  split
  ·rename_i hg; simp only [hg,if_true] at r; exact h.keep (a:=a) hu r
  ·rename_i hg; simp only [hg] at r; exact r
 | .msl k v lo hi,_,hu,⟨s,e,o1,m⟩=>by
  simp only [AV.under,decide_eq_true_eq] at hu
  exact ⟨s,e,o1,h.mutAt (Q:=fun r t=>qm r t.size lo hi s) hu m⟩
 | .yld j,_,hu,⟨hd,e⟩=>by
  simp only [AV.under,decide_eq_true_eq] at hu
  exact ⟨h.dead j hu hd,by rw [h.lp]; exact e⟩
 | .fix C w,_,_,⟨e,h1,h2⟩=>⟨e,fun b o x=>h.st.s b o (h1 b o x),fun a v x s y=>h.cell a v (h1 _ _ x) s (h2 a v x s y)⟩
 | .mpt k v i off,_,hu,⟨s,e,o1,m⟩=>by
  simp only [AV.under,decide_eq_true_eq] at hu
  exact ⟨s,e,o1,h.mutAt (Q:=fun r t=>ptS r t.size i off s) hu m⟩
theorem Fin.keeps {c':Gh} {L:List LE} {V:List Value} (h:Fin c c' h0 L V) : ∀ {l:List AV} {vs:List Value},l.all (AV.under h0)=true→RAs c l vs→RAs c' l vs
 | [],[],_,_=>trivial
 | _::_,_::_,hu,⟨a,b⟩=>by
  simp only [List.all_cons,Bool.and_eq_true] at hu
  exact ⟨h.keep hu.1 a,h.keeps hu.2 b⟩
theorem CInv.push {H H':List HO} {L:List LE} {V:List Value} (hc:CInv B c H L V) {le:LE} {s:Value} (hlen:H'.length=H.length) (box : ∀ (k:Nat) (cells:List AV),H'[k]? = some (.box cells)↔H[k]? = some (.box cells))
  (row : ∀ (k:Nat) t e v,H'[k]? = some (.row t e v) → ∃ v1,H[k]? = some (.row t e v1)∧v1≤v) (back : ∀ (k:Nat) t e v,H[k]? = some (.row t e v) → ∃ v1,H'[k]? = some (.row t e v1)∧v≤v1)
  (mrow : ∀ (k:Nat) t e v l,H'[k]? = some (.mrow t e v l)→H[k]? = some (.mrow t e v l)) (mback : ∀ (k:Nat) t e v l,H[k]? = some (.mrow t e v l)→H'[k]? = some (.mrow t e v l)∨H'[k]? = some HO.dead)
  (dead : ∀ (k:Nat),H[k]? = some HO.dead→H'[k]? = some HO.dead) (hcl:Hl B c H' le s) (hfr : ∀ b,s.ownBlock=some b → ∀ (j:Nat) s',V[j]? = some s'→s'.ownBlock≠some b):CInv B c H' (L++[le]) (V++[s]):=by
 have ht : ∀ s,zy c H s→zy c H' s:=by
  intro s h
  rcases h with h | ⟨k,h1,h2⟩
  ·exact .inl h
  ·refine .inr ⟨k,h1, ?_⟩
   rcases h2 with ⟨t,e,v0,v,g1,g2,g3⟩ | ⟨t,e,v,l,g1,g2⟩
   ·obtain ⟨v1,g4,g5⟩:=back k t e v g2
    exact .inl ⟨t,e,v0,v1,g1,g4,by omega⟩
   ·exact .inr ⟨t,e,v,l,g1,dead k g2⟩
 have hcl' : ∀ le s,Hl B c H le s→Hl B c H' le s:=by
  intro le s h
  cases le with
  | own t e=>exact ⟨h.1,ht s h.2⟩
  | «mut» t e ko l=>exact ⟨h.1,ht s h.2.1,h.2.2⟩
  | frz t e ko l=>exact ⟨h.1,ht s h.2.1,h.2.2⟩
 refine ⟨hlen.trans hc.len,by simp [hc.lv],fun k cells=>(box k cells).trans (hc.box k cells),fun k t e v hk => ?_,fun k t e v0 hk => ?_,fun i le' s' hl hs => ?_,fun i j s1 s2 b hij h1 h2 b1 b2 => ?_,fun k t e v l hk=>hc.mrow k t e v l (mrow k t e v l hk),fun k t e v l hk => ?_,fun k hk=>dead k (hc.dead k hk)⟩
 ·obtain ⟨v1,h1,h2⟩:=row k t e v hk
  obtain ⟨v0,h3,h4⟩:=hc.row k t e v1 h1
  exact ⟨v0,h3,Nat.le_trans h4 h2⟩
 ·obtain ⟨v1,h1,h2⟩:=hc.back k t e v0 hk
  obtain ⟨v2,h3,h4⟩:=back k t e v1 h1
  exact ⟨v2,h3,Nat.le_trans h2 h4⟩
 ·rcases Nat.lt_or_ge i L.length with hlt | hge
  ·rw [List.getElem?_append_left hlt] at hl
   rw [List.getElem?_append_left (by rw [← hc.lv]; exact hlt)] at hs
   exact hcl' _ _ (hc.claim i le' s' hl hs)
  ·rw [List.getElem?_append_right hge] at hl
   rw [List.getElem?_append_right (by rw [← hc.lv]; exact hge)] at hs
   have hi0:i-L.length=0:=by have:=aE hl; simp at this; omega
   rw [hi0] at hl
   rw [← hc.lv,hi0] at hs
   simp only [List.getElem?_cons_zero,Option.some.injEq] at hl hs
   subst hl; subst hs
   exact hcl
 ·have last : ∀ (i:Nat) x,V.length≤i→(V++[s])[i]? = some x→x=s∧i=V.length:=fun i x hi hx=>by
   rw [List.getElem?_append_right hi] at hx
   have hi0:i-V.length=0:=by have:=aE hx; simp at this; omega
   rw [hi0] at hx
   simp only [List.getElem?_cons_zero,Option.some.injEq] at hx
   exact ⟨hx.symm,by omega⟩
  rcases Nat.lt_or_ge i V.length with hi | hi
  ·rw [List.getElem?_append_left hi] at h1
   rcases Nat.lt_or_ge j V.length with hj | hj
   ·rw [List.getElem?_append_left hj] at h2
    exact hc.dist i j s1 s2 b hij h1 h2 b1 b2
   ·obtain ⟨rfl,_⟩:=last j s2 hj h2
    exact hfr b b2 i s1 h1 b1
  ·obtain ⟨rfl,hi'⟩:=last i s1 hi h1
   rcases Nat.lt_or_ge j V.length with hj | hj
   ·rw [List.getElem?_append_left hj] at h2
    exact hfr b b1 j s2 h2 b2
   ·obtain ⟨_,hj'⟩:=last j s2 hj h2
    omega
 ·rcases hc.mback k t e v l hk with h | h
  ·exact mback k t e v l h
  ·exact .inr (dead k h)
theorem CInv.fresh {H:List HO} {L:List LE} {V:List Value} (hI:Inv B w0 St0 c) (hc:CInv B c H L V) {k:Nat} (hob:obk c k=(c.rv k).ownBlock)
  (hk:(∃ t e v,c.heap[k]? = some (.row t e v)∧H[k]? = some (.row t e v)) ∨ ∃ t e v l,H[k]? = some (.mrow t e v l)) :
  ∀ b,(c.rv k).ownBlock=some b → ∀ (j:Nat) s',V[j]? = some s'→s'.ownBlock≠some b:=by
 intro b hb j s' hj hb'
 have hjl:j<L.length:=by rw [hc.lv]; exact aE hj
 have hcl:=hc.claim j L[j] s' (List.getElem?_eq_getElem hjl) hj
 have htk:zy c H s':=by
  generalize L[j]=le at hcl
  cases le with
  | own t e=>exact hcl.2
  | «mut» t e ko l=>exact hcl.2.1
  | frz t e ko l=>exact hcl.2.1
 rcases htk with h | ⟨k',h1,h2⟩
 ·rw [h] at hb'; cases hb'
 ·have hne:k'≠k:=fun e=>by
   subst e
   rcases h2 with ⟨t,e,v0,v,g1,g2,g3⟩ | ⟨t,e,v,l,g1,g2⟩
   ·rcases hk with ⟨t',e',v',q1,q2⟩ | ⟨t',e',v',l',q2⟩
    ·rw [g1] at q1; rw [g2] at q2
     injection q1 with q1; injection q2 with q2
     injection q1 with _ _ q1; injection q2 with _ _ q2
     omega
    ·rw [g2] at q2; cases q2
   ·rcases hk with ⟨t',e',v',q1,q2⟩ | ⟨t',e',v',l',q2⟩ <;> rw [g2] at q2 <;> cases q2
  have:obk c k'=(c.rv k').ownBlock:=by
   rcases h2 with ⟨t,e,v0,v,g1,g2,g3⟩ | ⟨t,e,v,l,g1,g2⟩ <;> (unfold obk; rw [g1])
  exact hI.sep k' k b hne (by rw [this,h1]; exact hb') (by rw [hob]; exact hb)
theorem TH {k v:Nat} {ko:Option (Nat×Nat)} (h:adX k v ko=true):ko=some (k,v):=by
 cases ko with
 | none=>cases h
 | some p =>
  obtain ⟨k',v'⟩:=p
  simp only [adX,Bool.and_eq_true] at h
  rw [Nat.eq_of_beq_eq_true h.1,Nat.eq_of_beq_eq_true h.2]
theorem jY {t:Ty} {k v:Nat} : ∀ {L:List LE} {i j:Nat},xA t k v i L=some j → ∃ n e l,j=i+n∧L[n]? = some (.mut t e (some (k,v)) l)
 | [],_,_,h=>by cases h
 | le::r,i,j,h=>by
  cases le with
  | «mut» t' e ko l =>
   simp only [xA] at h
   split at h
   ·rename_i hc
    simp only [Bool.and_eq_true,decide_eq_true_eq] at hc
    obtain ⟨h1,h2⟩:=hc
    subst h2
    injection h with h
    exact ⟨0,e,l,by omega,by rw [TH h1]; rfl⟩
   ·obtain ⟨n,e',l',h1,h2⟩:=jY h
    exact ⟨n+1,e',l',by omega,by simpa using h2⟩
  | own t' e=>obtain ⟨n,e',l',h1,h2⟩:=jY (L:=r) (i:=i+1) h; exact ⟨n+1,e',l',by omega,by simpa using h2⟩
  | frz t' e ko l=>obtain ⟨n,e',l',h1,h2⟩:=jY (L:=r) (i:=i+1) h; exact ⟨n+1,e',l',by omega,by simpa using h2⟩
theorem jZ {t:Ty} {k v:Nat} {l:List t.den} : ∀ {L:List LE},xB t k v L=some l → ∃ (n:Nat) (e:TypeId),L[n]? = some (.frz t e (some (k,v)) l)
 | [],h=>by cases h
 | le::r,h=>by
  cases le with
  | frz t' e ko l' =>
   simp only [xB] at h
   split at h
   ·rename_i hc
    split at h
    ·rename_i l2 hcast
     obtain ⟨et,hl2⟩:=cast?_some hcast
     injection et with et
     subst et
     have hl2:l2=l':=hl2
     subst hl2
     injection h with h
     subst h
     exact ⟨0,e,by rw [TH hc]; rfl⟩
    ·cases h
   ·obtain ⟨n,e',h2⟩:=jZ h
    exact ⟨n+1,e',by simpa using h2⟩
  | own t' e=>obtain ⟨n,e',h2⟩:=jZ (L:=r) h; exact ⟨n+1,e',by simpa using h2⟩
  | «mut» t' e ko l'=>obtain ⟨n,e',h2⟩:=jZ (L:=r) h; exact ⟨n+1,e',by simpa using h2⟩
theorem JK {w:World} {St:Sb} {τ:Ty} {e:TypeId} {l:List τ.den} {s v:Value} {lo hi:Nat} {xs:List Value} (ho:w.ownsRow B e τ.size s l.length xs) (hr:Rep w St (bA (toD τ) l) xs) (hst : ∀ b o,s.ownBlock=some b→St b o) (h:qm s τ.size lo hi v) :
  Rep w St (toD (.slice τ) ((l.take hi).drop lo)) [v]:=by
 have whole:=yq ho hr rfl (fun b o hb _=>hst b o hb)
 rcases h with ⟨rfl,rfl,rfl,rfl⟩ | ⟨g,n,cap,A,rfl,h2,h3,rfl,h5⟩
 ·exact ⟨none,0,0,rfl,by simp [e6],Nat.le_refl _,.inl rfl⟩
 ·have hn:n=l.length∧n≤cap:=by
   rcases ho.2 with ⟨q,_⟩ | ⟨g',cap',cur,q,_,_,q4,_⟩
   ·cases q
   ·injection q with _ q1 q2; omega
  obtain ⟨rfl,hnc⟩:=hn
  have hlen:((l.take hi).drop lo).length=hi-lo:=by simp; omega
  by_cases h0:hi-lo=0
  ·exact ⟨A,hi-lo,cap-lo,rfl,by rw [e6,hlen],by omega,.inl h0⟩
  ·have:=Ti whole h2 h3
   rw [if_neg (by omega)] at this
   rcases h5 with rfl | h5
   ·simpa [dY] using this
   ·omega
theorem u7 (hI:Inv B w0 St0 c) {m:MK} {a a':AV} {v:Value} {H H':List HO} {L L':List LE} {V:List Value} (hc:CInv B c H L V) (h:tQ h0 m a H L=some (a',H',L')) (hr:RA c a [v]) :
  ∃ V',CInv B c H' L' V'∧L <+: L'∧V <+: V'∧anp c h0 L' V' a' v:=by
 have get_last : ∀ {α:Type} (l:List α) (x:α),(l++[x])[l.length]? = some x:=fun l x=>by simp
 have pushNil : ∀ le,Hl B c H le (.slice none 0 0)→CInv B c H (L++[le]) (V++[.slice none 0 0]):=fun le hcl =>
  hc.push rfl (fun _ _=>Iff.rfl) (fun k t e v h=>⟨v,h,Nat.le_refl _⟩) (fun k t e v h=>⟨v,h,Nat.le_refl _⟩) (fun _ _ _ _ _ h=>h) (fun _ _ _ _ _ h => .inl h) (fun _ h=>h) hcl (fun b hb=>by simp [Value.ownBlock] at hb)
 have pushM : ∀ (k ver:Nat) (t:Ty) (e:TypeId) (l:List t.den) (le:LE),H[k]? = some (.mrow t e ver l)→(∀ H',zy c H' (c.rv k)→Hl B c H' le (c.rv k))→CInv B c (H.set k .dead) (L++[le]) (V++[c.rv k]):=fun k ver t e l le hH hcl=>by
  have hck:=hc.mrow k t e ver l hH
  have hklt:=aE hH
  have old : ∀ j,j≠k→(H.set k HO.dead)[j]? = H[j]? := fun j hj=>by rw [bv,if_neg (fun e=>hj e.symm)]
  have new:(H.set k HO.dead)[k]? = some HO.dead:=by rw [bv,if_pos rfl,if_pos hklt]
  have hob:obk c k=(c.rv k).ownBlock:=by unfold obk; rw [hck]
  refine hc.push (by simp) (fun j cells => ?_) (fun j t' e' v' hj => ?_) (fun j t' e' v' hj => ?_) (fun j t' e' v' l' hj => ?_) (fun j t' e' v' l' hj => ?_) (fun j hj => ?_) (hcl _ (.inr ⟨k,rfl,.inr ⟨t,e,ver,l,hck,new⟩⟩)) (hc.fresh hI hob (.inr ⟨t,e,ver,l,hH⟩))
  ·by_cases hjk:j=k
   ·subst hjk; rw [new,hH]; simp
   ·rw [old j hjk]
  ·have hjk:j≠k:=fun e=>by subst e; rw [new] at hj; cases hj
   rw [old j hjk] at hj; exact ⟨v',hj,Nat.le_refl _⟩
  ·have hjk:j≠k:=fun e=>by subst e; rw [hH] at hj; cases hj
   exact ⟨v',(old j hjk).trans hj,Nat.le_refl _⟩
  ·have hjk:j≠k:=fun e=>by subst e; rw [new] at hj; cases hj
   rw [old j hjk] at hj; exact hj
  ·by_cases hjk:j=k
   ·subst hjk; exact .inr new
   ·exact .inl ((old j hjk).trans hj)
  ·by_cases hjk:j=k
   ·subst hjk; exact new
   ·exact (old j hjk).trans hj
 cases m with
 | dat t =>
  cases a with
  | msl k ver lo hi =>
   simp only [tQ] at h
   split at h
   ·rename_i τ
    split at h
    ·rename_i l hfz
     simp only [Option.some.injEq,Prod.mk.injEq] at h
     obtain ⟨rfl,rfl,rfl⟩:=h
     obtain ⟨n,e,hn⟩:=jZ hfz
     have hnl:=aE hn
     have hnl2:n<V.length:=by rw [← hc.lv]; exact hnl
     have hnv:V[n]? = some V[n]:=List.getElem?_eq_getElem hnl2
     obtain ⟨⟨xs,m1,m2,m3⟩,_,c2⟩:=hc.claim n _ _ hn hnv
     obtain ⟨c3,c4⟩:=c2 k ver rfl
     have hlive:=dD hr c3
     refine ⟨V,hc,List.prefix_refl _,List.prefix_refl _,fun c' Lf Vf hf hL hV=>⟨v,rfl,(aA rfl).2 ?_⟩⟩
     refine JK (B:=B) (e:=e) (xs:=xs) (s:=V[n]) (by rw [hf.w]; exact m1) (m2.mono hf.st hf.cell) (fun b o hb=>(hf.St b o).2 (.inr ⟨n,τ,e,_,l,V[n],cj hL hn,cj hV hnv,hb⟩)) (by rw [← c4]; exact hlive)
    ·split at h
     ·rename_i τ' e v' l hH
      split at h
      ·rename_i q1
       subst q1
       split at h
       ·rename_i l2 hcast
        obtain ⟨et,hl2⟩:=cast?_some hcast
        injection et with et
        subst et
        have hl2:l2=l:=hl2
        subst hl2
        simp only [Option.some.injEq,Prod.mk.injEq] at h
        obtain ⟨rfl,rfl,rfl⟩:=h
        have hck:=hc.mrow k _ _ _ _ hH
        have hlive:=dD hr hck
        obtain ⟨xs,m1,m2,m3⟩:=hI.mrow k _ _ _ _ hck
        have mr:age B c τ' e l2 (c.rv k):=⟨xs,m1,m2,m3⟩
        refine ⟨V++[c.rv k],pushM k v' τ' e l2 _ hH (fun H' ht=>⟨mr,ht,fun k' v'' he=>by injection he with he; injection he with he1 he2; subst he1; subst he2; exact ⟨hck,rfl⟩⟩),List.prefix_append _ _,List.prefix_append _ _,fun c' Lf Vf hf hL hV=>⟨v,rfl,(aA rfl).2 ?_⟩⟩
        have hl:=cj hL (get_last L _)
        have hv:=cj hV (get_last V _)
        rw [← hc.lv] at hv
        exact JK (B:=B) (e:=e) (xs:=xs) (s:=c.rv k) (by rw [hf.w]; exact m1) (m2.mono hf.st hf.cell) (fun b o hb=>(hf.St b o).2 (.inr ⟨L.length,τ',e,_,l2,c.rv k,hl,hv,hb⟩)) hlive
       ·cases h
      ·cases h
     ·cases h
   ·cases h
  | _ =>
   simp only [tQ] at h
   split at h
   ·rename_i x hx
    simp only [Option.some.injEq,Prod.mk.injEq] at h
    obtain ⟨rfl,rfl,rfl⟩:=h
    exact ⟨V,hc,List.prefix_refl _,List.prefix_refl _,fun c' Lf Vf hf _ _=>⟨v,rfl,(dat?_sound hx hr).mono hf.st hf.cell⟩⟩
   ·cases h
 | keep =>
  simp only [tQ] at h
  split at h
  ·rename_i hu
   simp only [Option.some.injEq,Prod.mk.injEq] at h
   obtain ⟨rfl,rfl,rfl⟩:=h
   exact ⟨V,hc,List.prefix_refl _,List.prefix_refl _,fun c' Lf Vf hf _ _=>hf.keep hu hr⟩
  ·cases h
 | drop =>
  simp only [tQ,Option.some.injEq,Prod.mk.injEq] at h
  obtain ⟨rfl,rfl,rfl⟩:=h
  exact ⟨V,hc,List.prefix_refl _,List.prefix_refl _,fun c' Lf Vf hf _ _=>⟨v,rfl⟩⟩
 | «mut» t e =>
  cases a with
  | nil =>
   simp only [tQ,Option.some.injEq,Prod.mk.injEq] at h
   obtain ⟨rfl,rfl,rfl⟩:=h
   have hv:[v]=[.slice none 0 0]:=hr
   simp only [List.cons.injEq,and_true] at hv
   subst hv
   refine ⟨V++[.slice none 0 0],pushNil (LE.mut t e none []) ⟨⟨[],World.ownsRow_nil _ _ _ _,rfl,fun b hb=>by simp [Value.ownBlock] at hb⟩,.inl rfl,fun k v he=>by cases he⟩,List.prefix_append _ _,List.prefix_append _ _,fun c' Lf Vf hf hL hV => ?_⟩
   have hl:=cj hL (get_last L _)
   have hv:=cj hV (get_last V _)
   rw [← hc.lv] at hv
   obtain ⟨n1,n2⟩:=hf.new _ _ _ hl hv
   exact qO (τ:=t) (e:=e) (l:=[]) n1 (by rw [n2]; exact .inl ⟨rfl,rfl,rfl,rfl⟩)
  | msl k ver lo hi =>
   simp only [tQ] at h
   split at h
   ·rename_i i hfm
    simp only [Option.some.injEq,Prod.mk.injEq] at h
    obtain ⟨rfl,rfl,rfl⟩:=h
    obtain ⟨n,e',l,hin,hn⟩:=jY hfm
    have hin:i=n:=by omega
    subst hin
    have hnl:=aE hn
    have hnl2:i<V.length:=by rw [← hc.lv]; exact hnl
    have hnv:V[i]? = some V[i]:=List.getElem?_eq_getElem hnl2
    obtain ⟨_,_,c2⟩:=hc.claim i _ _ hn hnv
    obtain ⟨c3,c4⟩:=c2 k ver rfl
    have hlive:=dD hr c3
    refine ⟨V,hc,List.prefix_refl _,List.prefix_refl _,fun c' Lf Vf hf hL hV => ?_⟩
    obtain ⟨n1,n2⟩:=hf.new _ _ _ (cj hL hn) (cj hV hnv)
    exact qO (τ:=t) (e:=e') (l:=l) n1 (by rw [n2, ← c4]; exact hlive)
   ·split at h
    ·rename_i t2 e2 v2 l hH
     split at h
     ·rename_i q1
      split at h
      ·rename_i q2
       split at h
       ·rename_i l2 hcast
        obtain ⟨et,hl2⟩:=cast?_some hcast
        injection et with et
        subst et
        have hl2:l2=l:=hl2
        subst hl2
        subst q1; subst q2
        simp only [Option.some.injEq,Prod.mk.injEq] at h
        obtain ⟨rfl,rfl,rfl⟩:=h
        have hck:=hc.mrow k _ _ _ _ hH
        have hlive:=dD hr hck
        obtain ⟨xs,m1,m2,m3⟩:=hI.mrow k _ _ _ _ hck
        have mr:age B c t2 e2 l2 (c.rv k):=⟨xs,m1,m2,m3⟩
        refine ⟨V++[c.rv k],pushM k v2 t2 e2 l2 _ hH (fun H' ht=>⟨mr,ht,fun k' v'' he=>by injection he with he; injection he with he1 he2; subst he1; subst he2; exact ⟨hck,rfl⟩⟩),List.prefix_append _ _,List.prefix_append _ _,fun c' Lf Vf hf hL hV => ?_⟩
        have hl:=cj hL (get_last L _)
        have hv:=cj hV (get_last V _)
        rw [← hc.lv] at hv
        obtain ⟨n1,n2⟩:=hf.new _ _ _ hl hv
        exact qO (τ:=t2) (e:=e2) (l:=l2) n1 (by rw [n2]; exact hlive)
       ·cases h
      ·cases h
     ·cases h
    ·cases h
  | _=>simp [tQ] at h
 | own t e =>
  cases a with
  | nil =>
   simp only [tQ,Option.some.injEq,Prod.mk.injEq] at h
   obtain ⟨rfl,rfl,rfl⟩:=h
   have hv:[v]=[.slice none 0 0]:=hr
   simp only [List.cons.injEq,and_true] at hv
   subst hv
   refine ⟨V++[.slice none 0 0],pushNil (LE.own t e) ⟨⟨0,[],World.ownsRow_nil _ _ _ _,fun b hb=>by simp [Value.ownBlock] at hb⟩,.inl rfl⟩,List.prefix_append _ _,List.prefix_append _ _,fun c' Lf Vf hf hL hV => ?_⟩
   have hl:=cj hL (get_last L _)
   have hv:=cj hV (get_last V _)
   rw [← hc.lv] at hv
   obtain ⟨n1,n2⟩:=hf.new _ _ _ hl hv
   exact ⟨_,rfl,(aA rfl).2 ⟨none,0,0,rfl,rfl,Nat.le_refl _,.inl rfl⟩,t,e,0,n1,Nat.le_refl _,fun _=>n2.symm⟩
  | own k ver t1 l =>
   simp only [tQ] at h
   split at h
   ·rename_i t2 e2 v2 hH
    split at h
    ·rename_i q1
     split at h
     ·rename_i q2
      split at h
      ·rename_i q3
       split at h
       ·rename_i l2 hcast
        obtain ⟨et,hl2⟩:=cast?_some hcast
        injection et with et
        subst et
        have hl2:l2=l:=hl2
        subst hl2
        subst q1; subst q2; subst q3
        simp only [Option.some.injEq,Prod.mk.injEq] at h
        obtain ⟨rfl,rfl,rfl⟩:=h
        obtain ⟨s,es,hrep,t',e',v',hrow,hle,hcur⟩:=hr
        simp only [List.cons.injEq,and_true] at es
        subst es
        obtain ⟨v0,hc0,hv0⟩:=hc.row k _ _ _ hH
        rw [hc0] at hrow
        injection hrow with hrow
        injection hrow with r1 r2 r3
        subst r1; subst r2; subst r3
        have hve:v0=v2:=by omega
        subst hve
        have hs:v=c.rv k:=hcur rfl
        obtain ⟨n,xs,hown,hsp⟩:=hI.row k _ _ _ hc0
        have hklt:=aE hH
        have hob:obk c k=(c.rv k).ownBlock:=by unfold obk; rw [hc0]
        have old : ∀ j,j≠k→(H.set k (.row t2 e2 (v0+1)))[j]? = H[j]? := fun j hj=>by rw [bv,if_neg (fun e=>hj e.symm)]
        have new:(H.set k (.row t2 e2 (v0+1)))[k]? = some (.row t2 e2 (v0+1)):=by rw [bv,if_pos rfl,if_pos hklt]
        refine ⟨V++[v], ?_,List.prefix_append _ _,List.prefix_append _ _,fun c' Lf Vf hf hL hV => ?_⟩
        ·rw [hs]
         refine hc.push (by simp) (fun j cells => ?_) (fun j t' e' v' hj => ?_) (fun j t' e' v' hj => ?_) (fun j t' e' v' l' hj => ?_) (fun j t' e' v' l' hj => ?_) (fun j hj => ?_)
          ⟨⟨n,xs,hown,hsp⟩,.inr ⟨k,rfl,.inl ⟨t2,e2,v0,v0+1,hc0,new,by omega⟩⟩⟩ (hc.fresh hI hob (.inl ⟨t2,e2,v0,hc0,hH⟩))
         ·by_cases hjk:j=k
          ·subst hjk; rw [new,hH]; simp
          ·rw [old j hjk]
         ·by_cases hjk:j=k
          ·subst hjk
           rw [new] at hj
           injection hj with hj
           injection hj with j1 j2 j3
           subst j1; subst j2; subst j3
           exact ⟨v0,hH,by omega⟩
          ·rw [old j hjk] at hj; exact ⟨v',hj,Nat.le_refl _⟩
         ·by_cases hjk:j=k
          ·subst hjk
           rw [hH] at hj
           injection hj with hj
           injection hj with j1 j2 j3
           subst j1; subst j2; subst j3
           exact ⟨v0+1,new,by omega⟩
          ·exact ⟨v',(old j hjk).trans hj,Nat.le_refl _⟩
         ·have hjk:j≠k:=fun e=>by subst e; rw [new] at hj; cases hj
          rw [old j hjk] at hj; exact hj
         ·have hjk:j≠k:=fun e=>by subst e; rw [hH] at hj; cases hj
          exact .inl ((old j hjk).trans hj)
         ·have hjk:j≠k:=fun e=>by subst e; rw [hH] at hj; cases hj
          exact (old j hjk).trans hj
        ·have hl:=cj hL (get_last L _)
         have hv:=cj hV (get_last V _)
         rw [← hc.lv] at hv
         obtain ⟨n1,n2⟩:=hf.new _ _ _ hl hv
         exact ⟨v,rfl,hrep.mono hf.st hf.cell,t2,e2,0,n1,Nat.le_refl _,fun _=>n2.symm⟩
       ·cases h
      ·cases h
     ·cases h
    ·cases h
   ·cases h
  | _=>simp [tQ] at h
def UA (c:Gh) (h0:Nat) (L:List LE) (V:List Value) (as:List AV) (vs:List Value):Prop :=
 ∀ c' Lf Vf,Fin c c' h0 Lf Vf→L <+: Lf→V <+: Vf→RAs c' as vs
theorem Aw (hI:Inv B w0 St0 c) : ∀ {ms:List MK} {as as':List AV} {vs:List Value} {H H':List HO} {L L':List LE} {V:List Value},CInv B c H L V→Ox h0 ms as H L=some (as',H',L')→RAs c as vs →
  ∃ V',CInv B c H' L' V'∧L <+: L'∧V <+: V'∧UA c h0 L' V' as' vs
 | [],[],as',[],H,H',L,L',V,hc,h,_=>by
  simp only [Ox,Option.some.injEq,Prod.mk.injEq] at h
  obtain ⟨rfl,rfl,rfl⟩:=h
  exact ⟨V,hc,List.prefix_refl _,List.prefix_refl _,fun _ _ _ _ _ _=>trivial⟩
 | m::ms,a::as,as',v::vs,H,H',L,L',V,hc,h,⟨hr,hrs⟩=>by
  simp only [Ox] at h
  split at h
  ·rename_i a1 H1 L1 h1
   split at h
   ·rename_i as1 H2 L2 h2
    simp only [Option.some.injEq,Prod.mk.injEq] at h
    obtain ⟨rfl,rfl,rfl⟩:=h
    obtain ⟨V1,c1,p1,q1,r1⟩:=u7 hI hc h1 hr
    obtain ⟨V2,c2,p2,q2,r2⟩:=Aw hI c1 h2 hrs
    exact ⟨V2,c2,p1.trans p2,q1.trans q2,fun c' Lf Vf hf hL hV=>⟨r1 c' Lf Vf hf (p2.trans hL) (q2.trans hV),r2 c' Lf Vf hf hL hV⟩⟩
   ·cases h
  ·cases h
theorem nx (hI:Inv B w0 St0 c) {env:List AV} {vs:List Value} (hE:RAs c env vs) : ∀ {l:List (Nat×MK)} {acc acc':List AV} {H H':List HO} {L L':List LE} {V:List Value},CInv B c H L V→xI h0 env l acc H L=some (acc',H',L')→UA c h0 L V acc vs →
  ∃ V',CInv B c H' L' V'∧L <+: L'∧V <+: V'∧UA c h0 L' V' acc' vs
 | [],acc,acc',H,H',L,L',V,hc,h,hp=>by
  simp only [xI,Option.some.injEq,Prod.mk.injEq] at h
  obtain ⟨rfl,rfl,rfl⟩:=h
  exact ⟨V,hc,List.prefix_refl _,List.prefix_refl _,hp⟩
 | (s,m)::l,acc,acc',H,H',L,L',V,hc,h,hp=>by
  simp only [xI] at h
  split at h
  ·rename_i a1 H1 L1 h1
   rcases Nat.lt_or_ge s env.length with hlt | hge
   ·obtain ⟨v,hv,hr⟩:=hE.get s env[s] (List.getElem?_eq_getElem hlt)
    have e1:env.getD s .unk=env[s]:=by simp [List.getD,List.getElem?_eq_getElem hlt]
    rw [e1] at h1
    obtain ⟨V1,c1,p1,q1,r1⟩:=u7 hI hc h1 hr
    refine (nx hI hE c1 h ?_).imp fun V2 ⟨c2,p2,q2,r2⟩=>⟨c2,p1.trans p2,q1.trans q2,r2⟩
    intro c' Lf Vf hf hL hV
    have hset:=(hp c' Lf Vf hf (p1.trans hL) (q1.trans hV)).set s (r1 c' Lf Vf hf hL hV)
    have:vs.set s v=vs:=eE hv
    rw [this] at hset
    exact hset
   ·have e1:env.getD s .unk = .unk:=by simp [List.getD,List.getElem?_eq_none hge]
    rw [e1] at h1
    obtain ⟨V1,c1,p1,q1,r1⟩:=u7 hI (v:=undef) hc h1 ⟨_,rfl⟩
    refine (nx hI hE c1 h ?_).imp fun V2 ⟨c2,p2,q2,r2⟩=>⟨c2,p1.trans p2,q1.trans q2,r2⟩
    intro c' Lf Vf hf hL hV
    have hset:=(hp c' Lf Vf hf (p1.trans hL) (q1.trans hV)).set s (r1 c' Lf Vf hf hL hV)
    have hvl:=hE.length
    have:vs.set s undef=vs:=List.set_eq_of_length_le (by omega)
    rw [this] at hset
    exact hset
  ·cases h
theorem un (hI:Inv B w0 St0 c) : ∀ {l:List (Nat×List MK)} {bs:List (Nat×List AV)} {H H':List HO} {L L':List LE} {V:List Value},CInv B c H L V→xH h0 l H L=some (bs,H',L') →
  ∃ V',CInv B c H' L' V'∧L <+: L'∧V <+: V'∧bs.map (·.1)=l.map (·.1) ∧ ∀ p∈bs,∃ cells arr t,c.heap[p.1]? = some (.box cells)∧c.w.heap[c.blk p.1]? = some (.cells arr t (0,0))∧UA c h0 L' V' p.2 arr.toList
 | [],bs,H,H',L,L',V,hc,h=>by
  simp only [xH,Option.some.injEq,Prod.mk.injEq] at h
  obtain ⟨rfl,rfl,rfl⟩:=h
  exact ⟨V,hc,List.prefix_refl _,List.prefix_refl _,rfl,fun p hp=>by cases hp⟩
 | (k,ms)::l,bs,H,H',L,L',V,hc,h=>by
  simp only [xH] at h
  split at h
  ·rename_i cells hk
   split at h
   ·rename_i cells' H1 L1 h1
    split at h
    ·rename_i bs' H2 L2 h2
     simp only [Option.some.injEq,Prod.mk.injEq] at h
     obtain ⟨rfl,rfl,rfl⟩:=h
     have hck:=(hc.box k cells).1 hk
     obtain ⟨arr,t,g1,_,_,g4⟩:=hI.box k cells hck
     obtain ⟨V1,c1,p1,q1,r1⟩:=Aw hI hc h1 g4
     obtain ⟨V2,c2,p2,q2,e2,r2⟩:=un hI c1 h2
     refine ⟨V2,c2,p1.trans p2,q1.trans q2,by simp [e2],fun p hp => ?_⟩
     rcases List.mem_cons.1 hp with rfl | hp
     ·exact ⟨cells,arr,t,hck,g1,fun c' Lf Vf hf hL hV=>r1 c' Lf Vf hf (p2.trans hL) (q2.trans hV)⟩
     ·exact r2 p hp
    ·cases h
   ·cases h
  ·cases h
end
end Go.Proofs.YtboikinjlmjgjaaGreat.Abs
