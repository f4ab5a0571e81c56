/- How the abstract machine's values and objects lie in the model's memory. -/
import Derived.Test.YtboikinjlmjgjaaGreatAbsB
import Derived.RangeFuncOwn
namespace Go.Proofs.YtboikinjlmjgjaaGreat.Abs
open Go Go.RowKit
def AV.isCh:AV→Bool
 | .pnil=>true
 | .pcons _ b=>b.isCh
 | _=>false
theorem eK (q:List AV):(br q).isCh=true:=by
 induction q with
 | nil=>rfl
 | cons a q ih=>exact ih
structure Gh where
 heap:List HO
 St:Sb
 blk:Nat→Nat
 rv:Nat→Value
 w:World
 lp:Nat→Nat:=fun _=>0
def ql (c:Gh) (k v:Nat) (Q:Ty→Prop):Prop :=
 (∃ t e v' l,c.heap[k]? = some (.mrow t e v' l)∧v≤v'∧(v'=v→Q t))∨c.heap[k]? = some .dead
def qm (r:Value) (size lo hi:Nat) (s:Value):Prop :=
 (r = .slice none 0 0∧lo=0∧hi=0∧s = .slice none 0 0) ∨
 ∃ g n cap A,r = .slice (some ⟨g,0,none⟩) n cap∧lo≤hi∧hi≤n∧s = .slice A (hi-lo) (cap-lo)∧(A=some ⟨g,lo * size,none⟩∨(cap=lo∧0<lo))
def ptS (r:Value) (size i off:Nat) (p:Value):Prop := ∃ g n cap,r = .slice (some ⟨g,0,none⟩) n cap∧i<n∧p = .pointer (some ⟨g,i * size+off,none⟩)
def RA (c:Gh):AV→List Value→Prop
 | .unk,vs => ∃ v,vs=[v]
 | .val t x,vs => ∃ v,vs=[v]∧cE c.w c.St t x v
 | .nil,vs=>vs=[.slice none 0 0]
 | .own k v t l,vs => ∃ s,vs=[s]∧cE c.w c.St (.slice t) l s ∧ ∃ t' e' v',c.heap[k]? = some (.row t' e' v')∧v≤v'∧(v'=v→s=c.rv k)
 | .ref t x,vs => ∃ ad ds,vs=[.pointer (some ad)]∧ad.spot=none∧Rep c.w c.St (toD t x) ds ∧ ∀ j u,ds[j]? = some u→c.w.cell? (ad.add j)=some u∧c.St ad.block (ad.off+j)
 | .box k off,vs => ∃ cells,c.heap[k]? = some (.box cells)∧vs=[.pointer (some ⟨c.blk k,off,none⟩)]
 | .fn f caps,vs => ∃ cs,vs=[.func (.func f) #[] cs.toArray]∧RA c caps cs∧caps.isCh=true
 | .agg p,vs => ∃ cs,vs=[.agg cs.toArray]∧RA c p cs∧p.isCh=true ∧ ∀ u∈cs,u.oneCell'=true
 | .tup p,vs => ∃ cs,vs=[.tuple cs.toArray]∧RA c p cs∧p.isCh=true
 | .pnil,vs=>vs=[]
 | .pcons a b,vs => ∃ v r,vs=v::r∧RA c a [v]∧RA c b r
 | .cond g a,vs=>if g then RA c a vs else vs=[undef]
 | .msl k v lo hi,vs => ∃ s,vs=[s]∧s.oneCell'=true∧ql c k v (fun t=>qm (c.rv k) t.size lo hi s)
 | .mpt k v i off,vs => ∃ p,vs=[p]∧p.oneCell'=true∧ql c k v (fun t=>ptS (c.rv k) t.size i off p)
 | .yld j,vs=>c.heap[j]? = some .dead∧vs=[.func (.yield (c.lp j)) #[] #[]]
 | .fix C w,vs=>vs=[undef]∧(∀ b o,C b o→c.St b o) ∧ ∀ (a:Addr) v,C a.block a.off→a.spot=none→w.cell? a=some v→c.w.cell? a=some v
def RAs (c:Gh):List AV→List Value→Prop
 | [],[]=>True
 | a::l,v::vs=>RA c a [v]∧RAs c l vs
 | _,_=>False
structure Ev (c c':Gh):Prop where
 st:c.St.le c'.St
 cell : ∀ (a:Addr) v,c.St a.block a.off→a.spot=none→c.w.cell? a=some v→c'.w.cell? a=some v
 box : ∀ k cells,c.heap[k]? = some (.box cells) → ∃ cells',c'.heap[k]? = some (.box cells')∧c'.blk k=c.blk k
 row : ∀ k t e v,c.heap[k]? = some (.row t e v) → ∃ t' e' v',c'.heap[k]? = some (.row t' e' v')∧v≤v'∧(v'=v→c'.rv k=c.rv k)
 mrow : ∀ k t e v l,c.heap[k]? = some (.mrow t e v l)→(∃ v' l',c'.heap[k]? = some (.mrow t e v' l')∧v≤v'∧(v'=v→c'.rv k=c.rv k))∨c'.heap[k]? = some .dead
 dead : ∀ (k:Nat),c.heap[k]? = some HO.dead→c'.heap[k]? = some HO.dead
 lp : ∀ (k:Nat),c.heap[k]? = some HO.dead→c'.lp k=c.lp k
theorem Ev.refl (c:Gh):Ev c c:=⟨Sb.le.refl _,fun _ _ _ _ h=>h,fun _ cells h=>⟨cells,h,rfl⟩,fun _ t e v h=>⟨t,e,v,h,Nat.le_refl _,fun _=>rfl⟩,fun _ _ _ v l h => .inl ⟨v,l,h,Nat.le_refl _,fun _=>rfl⟩,fun _ h=>h,fun _ _=>rfl⟩
theorem Ev.trans {a b c:Gh} (h:Ev a b) (k:Ev b c):Ev a c:=by
 refine ⟨h.st.trans k.st,fun ad v x s y=>k.cell ad v (h.st.s _ _ x) s (h.cell ad v x s y),fun i cells x => ?_,fun i t e v x => ?_,fun i t e v l x => ?_,fun i x=>k.dead i (h.dead i x),fun i x=>(k.lp i (h.dead i x)).trans (h.lp i x)⟩
 ·obtain ⟨c1,h1,e1⟩:=h.box i cells x
  obtain ⟨c2,h2,e2⟩:=k.box i c1 h1
  exact ⟨c2,h2,e2.trans e1⟩
 ·obtain ⟨t1,e1,v1,h1,l1,q1⟩:=h.row i t e v x
  obtain ⟨t2,e2,v2,h2,l2,q2⟩:=k.row i t1 e1 v1 h1
  refine ⟨t2,e2,v2,h2,Nat.le_trans l1 l2,fun e => ?_⟩
  have:v2=v1:=by omega
  exact (q2 this).trans (q1 (by omega))
 ·rcases h.mrow i t e v l x with ⟨v1,l1,h1,le1,q1⟩ | hd
  ·rcases k.mrow i t e v1 l1 h1 with ⟨v2,l2,h2,le2,q2⟩ | hd
   ·refine .inl ⟨v2,l2,h2,Nat.le_trans le1 le2,fun e => ?_⟩
    exact (q2 (by omega)).trans (q1 (by omega))
   ·exact .inr hd
  ·exact .inr (k.dead i hd)
theorem ql.mono {c c':Gh} (h:Ev c c') {k v:Nat} {Q:Value→Ty→Prop} (m:ql c k v (Q (c.rv k))):ql c' k v (Q (c'.rv k)):=by
 rcases m with ⟨t,e,v',l,hk,hle,hq⟩ | hd
 ·rcases h.mrow k t e v' l hk with ⟨v2,l2,h2,le2,q2⟩ | hd
  ·refine .inl ⟨t,e,v2,l2,h2,Nat.le_trans hle le2,fun e => ?_⟩
   rw [q2 (by omega)]
   exact hq (by omega)
  ·exact .inr hd
 ·exact .inr (h.dead k hd)
theorem gi (ad:Addr) (h:ad.spot=none) (j:Nat):(ad.add j).block=ad.block∧(ad.add j).off=ad.off+j∧(ad.add j).spot=none:=by
 unfold Addr.add; split <;> simp_all
theorem add_zero (ad:Addr):ad.add 0=ad:=by simp [Addr.add]
theorem BG (ad:Addr) (i j:Nat):(ad.add i).add j=ad.add (i+j):=by
 unfold Addr.add
 by_cases hi:i=0 <;> by_cases hj:j=0 <;> simp [hi,hj,Nat.add_assoc]
theorem RA.mono {c c':Gh} (h:Ev c c') : ∀ {a:AV} {vs:List Value},RA c a vs→RA c' a vs
 | .unk,_,r=>r
 | .val t x,_,⟨v,e,r⟩=>⟨v,e,r.mono h.st h.cell⟩
 | .nil,_,r=>r
 | .own k v t l,_,⟨s,e,r,t',e',v',hr,hle,heq⟩=>by
  obtain ⟨t2,e2,v2,h2,l2,q2⟩:=h.row k t' e' v' hr
  exact ⟨s,e,r.mono h.st h.cell,t2,e2,v2,h2,Nat.le_trans hle l2,fun x=>(heq (by omega)).trans (q2 (by omega)).symm⟩
 | .ref t x,_,⟨ad,ds,e,hs,hd,hc⟩=>by
  refine ⟨ad,ds,e,hs,hd.mono h.st h.cell,fun j u hu => ?_⟩
  obtain ⟨h1,h2⟩:=hc j u hu
  obtain ⟨f1,f2,f3⟩:=gi ad hs j
  exact ⟨h.cell _ _ (by rw [f1,f2]; exact h2) f3 h1,h.st.s _ _ h2⟩
 | .box k off,_,⟨cells,hk,e⟩=>by
  obtain ⟨c2,h2,e2⟩:=h.box k cells hk
  exact ⟨c2,h2,by rw [e2]; exact e⟩
 | .fn f caps,_,⟨cs,e,r,o⟩=>⟨cs,e,RA.mono h r,o⟩
 | .agg p,_,⟨cs,e,r,o⟩=>⟨cs,e,RA.mono h r,o⟩
 | .tup p,_,⟨cs,e,r,o⟩=>⟨cs,e,RA.mono h r,o⟩
 | .pnil,_,r=>r
 | .pcons a b,_,⟨v,r,e,ha,hb⟩=>⟨v,r,e,RA.mono h ha,RA.mono h hb⟩
 | .cond g a,vs,r=>by
  simp only [RA] at r ⊢
  split
  ·rename_i hg; simp only [hg,if_true] at r; exact RA.mono h r
  ·rename_i hg; simp only [hg] at r; exact r
 | .msl k v lo hi,_,⟨s,e,o,m⟩=>⟨s,e,o,ql.mono (Q:=fun r t=>qm r t.size lo hi s) h m⟩
 | .mpt k v i off,_,⟨s,e,o,m⟩=>⟨s,e,o,ql.mono (Q:=fun r t=>ptS r t.size i off s) h m⟩
 | .yld j,_,⟨hd,e⟩=>⟨h.dead j hd,by rw [h.lp j hd]; exact e⟩
 | .fix C w,_,⟨e,h1,h2⟩=>⟨e,fun b o x=>h.st.s b o (h1 b o x),fun a v x s y=>h.cell a v (h1 _ _ x) s (h2 a v x s y)⟩
theorem RAs.mono {c c':Gh} (h:Ev c c') : ∀ {l:List AV} {vs:List Value},RAs c l vs→RAs c' l vs
 | [],[],_=>trivial
 | _::_,_::_,⟨a,b⟩=>⟨RA.mono h a,RAs.mono h b⟩
theorem RAs.length {c:Gh} : ∀ {l:List AV} {vs:List Value},RAs c l vs→l.length=vs.length
 | [],[],_=>rfl
 | _::_,_::_,⟨_,b⟩=>by simp [RAs.length b]
theorem RAs.append {c:Gh} : ∀ {l l':List AV} {vs vs':List Value},RAs c l vs→RAs c l' vs'→RAs c (l++l') (vs++vs')
 | [],_,[],_,_,h=>h
 | _::_,_,_::_,_,⟨a,b⟩,h=>⟨a,RAs.append b h⟩
theorem RAs.get {c:Gh} : ∀ {l:List AV} {vs:List Value},RAs c l vs → ∀ (i:Nat) a,l[i]? = some a → ∃ v,vs[i]? = some v∧RA c a [v]
 | [],[],_,i,a,h=>by simp at h
 | x::l,v::vs,⟨r,rs⟩,i,a,h=>by
  cases i with
  | zero=>simp at h; subst h; exact ⟨v,rfl,r⟩
  | succ i=>simp at h; simpa using rs.get i a h
theorem RAs.take {c:Gh} : ∀ {l:List AV} {vs:List Value} (n:Nat),RAs c l vs→RAs c (l.take n) (vs.take n)
 | [],[],n,_=>by simp [RAs]
 | _::_,_::_,0,_=>by simp [RAs]
 | _::_,_::_,n+1,⟨a,b⟩=>⟨a,RAs.take n b⟩
theorem RAs.drop {c:Gh} : ∀ {l:List AV} {vs:List Value} (n:Nat),RAs c l vs→RAs c (l.drop n) (vs.drop n)
 | [],[],n,_=>by simp [RAs]
 | _::_,_::_,0,h=>h
 | _::_,_::_,n+1,⟨_,b⟩=>by simpa using RAs.drop n b
theorem RAs.set {c:Gh} : ∀ {l:List AV} {vs:List Value} (i:Nat) {a:AV} {v:Value},RAs c l vs→RA c a [v]→RAs c (l.set i a) (vs.set i v)
 | [],[],_,_,_,_,_=>trivial
 | _::_,_::_,0,_,_,⟨_,b⟩,h=>⟨h,b⟩
 | _::_,_::_,i+1,_,_,⟨a,b⟩,h=>⟨a,RAs.set i b h⟩
theorem RA.parts {c:Gh} : ∀ {p:AV} {cs:List Value},RA c p cs→p.isCh=true→RAs c p.parts cs
 | .pnil,cs,h,_=>by have h:cs=[]:=h; subst h; trivial
 | .pcons a b,cs,h,hc=>by
  obtain ⟨v,r,rfl,ha,hb⟩:=h
  exact ⟨ha,RA.parts hb hc⟩
theorem RA.of_chain {c:Gh} : ∀ {q:List AV} {cs:List Value},RAs c q cs→RA c (br q) cs
 | [],[],_=>rfl
 | _::_,v::vs,⟨a,b⟩=>⟨v,vs,rfl,a,RA.of_chain b⟩
theorem RA.one {c:Gh} {a:AV} {vs:List Value} (h:RA c a vs) (h1:(∃ t x,a = .val t x)∨a = .nil∨(∃ k v t l,a = .own k v t l)) : ∃ v,vs=[v]:=by
 rcases h1 with ⟨t,x,rfl⟩ | rfl | ⟨k,v,t,l,rfl⟩
 ·obtain ⟨v,e,_⟩:=h; exact ⟨v,e⟩
 ·exact ⟨_,h⟩
 ·obtain ⟨s,e,_⟩:=h; exact ⟨s,e⟩
theorem cast?_some {t t':Ty} {x:t.den} {y:t'.den} (h:cast? t t' x=some y) : ∃ e:t=t',y=e ▸ x:=by
 unfold cast? at h
 split at h
 ·rename_i e; exact ⟨e,(Option.some.inj h).symm⟩
 ·cases h
theorem one?_sound {c:Gh} {t:Ty} {a:AV} {x:t.den} {v:Value} (h:one? t a=some x) (r:RA c a [v]):cE c.w c.St t x v:=by
 cases a with
 | val t' y =>
  obtain ⟨e,hx⟩:=cast?_some (h:cast? t' t y=some x)
  subst e; subst hx
  obtain ⟨v',e,r⟩:=r
  simp at e; subst e; exact r
 | nil =>
  cases t with
  | slice t =>
   simp only [one?] at h
   have:x=[]:=(Option.some.inj h).symm
   subst this
   have r:[v]=[.slice none 0 0]:=r
   simp at r; subst r
   show Rep _ _ _ _
   exact ⟨none,0,0,rfl,rfl,Nat.le_refl _,.inl rfl⟩
  | jsl e =>
   simp only [one?] at h
   have:x=(0:Nat):=(Option.some.inj h).symm
   subst this
   have r:[v]=[.slice none 0 0]:=r
   simp at r; subst r
   show Rep _ _ _ _
   exact ⟨none,0,rfl,.inl ⟨rfl,rfl,rfl⟩⟩
  | _=>simp [one?] at h
 | own k v' t' l =>
  obtain ⟨e,hx⟩:=cast?_some (h:cast? (.slice t') t l=some x)
  subst e; subst hx
  obtain ⟨s,e,r,_⟩:=r
  simp at e; subst e; exact r
 | _=>simp [one?] at h
theorem aA {w:World} {St:Sb} {t:Ty} (ht:t.isStruct=false) {x:t.den} {v:Value}:cE w St t x v↔Rep w St (toD t x) [v]:=by
 simp [cE,ht]
theorem lM {c:Gh} : ∀ {t:Ty} {x:t.den} {vs:List Value},Rep c.w c.St (toD t x) vs→RAs c (uU t x) vs
 | .int k,x,vs,h=>by obtain ⟨rfl,h1⟩:=h; exact ⟨⟨_,rfl,(aA rfl).2 ⟨rfl,h1⟩⟩,trivial⟩
 | .bool,x,vs,h=>by obtain ⟨rfl,h1⟩:=h; exact ⟨⟨_,rfl,(aA rfl).2 ⟨rfl,h1⟩⟩,trivial⟩
 | .str,x,vs,h=>by obtain ⟨rfl,h1⟩:=h; exact ⟨⟨_,rfl,(aA rfl).2 ⟨rfl,h1⟩⟩,trivial⟩
 | .slice t,x,vs,h=>by
  have h':=h
  obtain ⟨A,n,cp,rfl,_⟩:=h
  exact ⟨⟨_,rfl,(aA rfl).2 h'⟩,trivial⟩
 | .jsl e,x,vs,h=>by
  have h':=h
  obtain ⟨A,cp,rfl,_⟩:=h
  exact ⟨⟨_,rfl,(aA rfl).2 h'⟩,trivial⟩
 | .unit,x,vs,h=>by have h:vs=[]:=h; subst h; trivial
 | .cons a b,x,vs,h=>by
  obtain ⟨c1,c2,rfl,h1,h2⟩:=h
  exact (lM h1).append (lM h2)
 | .tree,.mk k t ls ks,vs,h=>by
  simp only [toD,qj] at h
  obtain ⟨c1,c2,rfl,h1,c3,c4,rfl,h2,c5,c6,rfl,h3,c7,c8,rfl,h4,h5⟩:=h
  have h5:c8=[]:=h5
  subst h5
  obtain ⟨rfl,o1⟩:=h1
  obtain ⟨rfl,o2⟩:=h2
  have h3':=h3
  obtain ⟨A,n,cp,rfl,_⟩:=h3
  have h4':=h4
  obtain ⟨A',n',cp',rfl,_⟩:=h4
  refine ⟨⟨_,rfl,(aA rfl).2 ⟨rfl,o1⟩⟩,⟨_,rfl,(aA rfl).2 ⟨rfl,o2⟩⟩,⟨_,rfl,(aA rfl).2 h3'⟩,⟨_,rfl,(aA rfl).2 ?_⟩,trivial⟩
  rw [g0] at h4'
  exact h4'
theorem gh {c:Gh} : ∀ {t:Ty} {l:List AV} {x:t.den} {vs:List Value},asm t l=some x→RAs c l vs→Rep c.w c.St (toD t x) vs
 | .int k,[a],x,[v],h,r=>(aA rfl).1 (one?_sound h r.1)
 | .bool,[a],x,[v],h,r=>(aA rfl).1 (one?_sound h r.1)
 | .str,[a],x,[v],h,r=>(aA rfl).1 (one?_sound h r.1)
 | .slice t,[a],x,[v],h,r=>(aA rfl).1 (one?_sound h r.1)
 | .jsl e,[a],x,[v],h,r=>(aA rfl).1 (one?_sound h r.1)
 | .unit,[],x,[],h,r=>rfl
 | .cons a b,l,x,vs,h,r=>by
  simp only [asm] at h
  split at h
  ·rename_i y z hy hz
   have:x=(y,z):=(Option.some.inj h).symm
   subst this
   exact ⟨_,_,(List.take_append_drop a.size vs).symm,gh hy (r.take _),gh hz (r.drop _)⟩
  ·cases h
 | .tree,[a,b,d,e],x,[v1,v2,v3,v4],h,r=>by
  simp only [asm] at h
  split at h
  ·rename_i k t ls ks h1 h2 h3 h4
   have:x=Tree.mk k t ls ks:=(Option.some.inj h).symm
   subst this
   obtain ⟨r1,r2,r3,r4,_⟩:=r
   refine ⟨[v1],[v2,v3,v4],rfl,(aA rfl).1 (one?_sound h1 r1),[v2],[v3,v4],rfl,(aA rfl).1 (one?_sound h2 r2),[v3],[v4],rfl,(aA rfl).1 (one?_sound h3 r3),[v4],[],rfl, ?_,rfl⟩
   rw [g0]
   exact (aA rfl).1 (one?_sound h4 r4)
  ·cases h
theorem RA.nj {c c':Gh} (hh:c'.heap=c.heap) (hb:c'.blk=c.blk) (hr:c'.rv=c.rv) (hw:c'.w=c.w) (hl:c'.lp=c.lp) (hs : ∀ b o,c.St b o→c'.St b o) : ∀ {a:AV} {vs:List Value},a.nojk=true→RA c a vs→RA c' a vs
 | .unk,_,_,r=>r
 | .val t x,_,h,⟨v,e,r⟩=>⟨v,e,by rw [hw]; exact r.nj hs h⟩
 | .nil,_,_,r=>r
 | .own k v t l,_,h,⟨s,e,r,t',e',v',q1,q2,q3⟩=>⟨s,e,by rw [hw]; exact cE.nj (t := .slice t) hs h r,t',e',v',by rw [hh]; exact q1,q2,by rw [hr]; exact q3⟩
 | .ref t x,_,h,⟨ad,ds,e,q1,q2,q3⟩=>⟨ad,ds,e,q1,by rw [hw]; exact q2.nj hs (sN x h),fun j u hu=>⟨by rw [hw]; exact (q3 j u hu).1,hs _ _ (q3 j u hu).2⟩⟩
 | .box k off,_,_,⟨cells,q1,q2⟩=>⟨cells,by rw [hh]; exact q1,by rw [hb]; exact q2⟩
 | .fn f caps,_,h,⟨cs,e,r,q⟩=>⟨cs,e,r.nj hh hb hr hw hl hs h,q⟩
 | .agg p,_,h,⟨cs,e,r,q⟩=>⟨cs,e,r.nj hh hb hr hw hl hs h,q⟩
 | .tup p,_,h,⟨cs,e,r,q⟩=>⟨cs,e,r.nj hh hb hr hw hl hs h,q⟩
 | .pnil,_,_,r=>r
 | .pcons a b,_,h,⟨v,r,e,q1,q2⟩=>by
  simp only [AV.nojk,Bool.and_eq_true] at h
  exact ⟨v,r,e,q1.nj hh hb hr hw hl hs h.1,q2.nj hh hb hr hw hl hs h.2⟩
 | .cond g a,vs,h,r=>by
  cases g
  ·exact r
  ·exact RA.nj (a:=a) hh hb hr hw hl hs h r
 | .msl k v lo hi,_,_,⟨s,e,q1,q2⟩=>⟨s,e,q1,by unfold ql at *; rw [hh,hr]; exact q2⟩
 | .mpt k v i off,_,_,⟨p,e,q1,q2⟩=>⟨p,e,q1,by unfold ql at *; rw [hh,hr]; exact q2⟩
 | .yld j,_,_,⟨q1,q2⟩=>⟨by rw [hh]; exact q1,by rw [hl]; exact q2⟩
 | .fix C w,_,_,⟨e,q1,q2⟩=>⟨e,fun b o x=>hs b o (q1 b o x),by rw [hw]; exact q2⟩
theorem RAs.nj {c c':Gh} (hh:c'.heap=c.heap) (hb:c'.blk=c.blk) (hr:c'.rv=c.rv) (hw:c'.w=c.w) (hl:c'.lp=c.lp) (hs : ∀ b o,c.St b o→c'.St b o) : ∀ {as:List AV} {vs:List Value},as.all AV.nojk=true→RAs c as vs→RAs c' as vs
 | [],[],_,_=>trivial
 | a::as,v::vs,h,⟨r,rs⟩=>by
  simp only [List.all_cons,Bool.and_eq_true] at h
  exact ⟨r.nj hh hb hr hw hl hs h.1,rs.nj hh hb hr hw hl hs h.2⟩
def obk (c:Gh) (k:Nat):Option Nat :=
 match c.heap[k]? with
 | some (.box _)=>some (c.blk k)
 | some (.row _ _ _)=>(c.rv k).ownBlock
 | some (.mrow _ _ _ _)=>(c.rv k).ownBlock
 | _=>none
structure Bd where
 b:Nat
 F:Nat→Prop:=fun _=>False
instance bdNat:Coe Bd Nat:=⟨Bd.b⟩
structure Og (F:Nat→Prop) (w w':World):Prop where
 dr:w.drawn≤w'.drawn
 keep : ∀ (k:Nat) (o:Obj),w.heap[k]? = some o→o.isCells=false→w'.heap[k]? = some o
 kb : ∀ b,F b→w'.heap[b]? = w.heap[b]?
theorem Og.refl {F:Nat→Prop} (w:World):Og F w w:=⟨Nat.le_refl _,fun _ _ h _=>h,fun _ _=>rfl⟩
theorem Og.trans {F:Nat→Prop} {w w' w'':World} (h:Og F w w') (g:Og F w' w''):Og F w w'':=⟨Nat.le_trans h.dr g.dr,fun k o x y=>g.keep k o (h.keep k o x y) y,fun b f=>(g.kb b f).trans (h.kb b f)⟩
theorem Og.of_below {F:Nat→Prop} {w w':World} (hb:Below w.heap.size w w') (hd:w.drawn≤w'.drawn) (hf : ∀ b,F b→b<w.heap.size):Og F w w':=⟨hd,fun k _ x _=>(hb.block k (Array.getElem?_eq_some_iff.1 x).1).trans x,fun b f=>hb.block b (hf b f)⟩
theorem Og.of_grown {F:Nat→Prop} {w w':World} {row:Option Nat} (hg:w.grownBy w' row) (hr : ∀ b,row=some b → ∃ arr t m,w.heap[b]? = some (.cells arr t m)) (hd:w.drawn≤w'.drawn) (hf : ∀ b,F b→b<w.heap.size∧some b≠row):Og F w w' :=
 ⟨hd,fun k o x y=>(hg.block k (Array.getElem?_eq_some_iff.1 x).1 (fun e=>by
  obtain ⟨arr,t,m,h⟩:=hr k e.symm
  rw [x] at h
  injection h with h
  subst h
  cases y)).trans x,fun b f=>hg.block b (hf b f).1 (hf b f).2⟩
structure Jk (B:Bd) (c:Gh) (b:Nat) (e:TypeId) (cap n:Nat):Prop where
 lo:B.b≤b
 nf : ¬ B.F b
 le:n≤cap∧cap≤maxLen
 cells : ∃ arr,c.w.heap[b]? = some (.cells arr e (0,0))∧arr.size=cap ∧ ∀ u∈arr.toList,u.oneCell'=true
 free : ∀ o,¬ c.St b o
 own : ∀ k,obk c k≠some b
structure Inv (B:Bd) (w0:World) (St0:Sb) (c:Gh):Prop where
 below:Below B w0 c.w
 size:B≤c.w.heap.size
 bnd : ∀ b o,c.St b o→b<c.w.heap.size
 st0:St0.le c.St
 stN : ∀ b o,c.St b o→St0 b o∨(B.b≤b ∧ ¬ B.F b)
 box : ∀ k cells,c.heap[k]? = some (.box cells) → ∃ arr t,c.w.heap[c.blk k]? = some (.cells arr t (0,0))∧B≤c.blk k∧(∀ o,¬ c.St (c.blk k) o)∧RAs c cells arr.toList
 row : ∀ k t e v,c.heap[k]? = some (.row t e v) → ∃ n xs,c.w.ownsRow B e t.size (c.rv k) n xs ∧ ∀ b,(c.rv k).ownBlock=some b → ∀ o,n * t.size≤o → ¬ c.St b o
 sep : ∀ k k' b,k≠k'→obk c k=some b→obk c k'≠some b
 mrow : ∀ k t e v l,c.heap[k]? = some (.mrow t e v l) → ∃ xs,c.w.ownsRow B e t.size (c.rv k) l.length xs∧Rep c.w c.St (bA (toD t) l) xs ∧ ∀ b,(c.rv k).ownBlock=some b → ∀ o,¬ c.St b o
 drawn:Og B.F w0 c.w
 fo : ∀ k b,obk c k=some b → ¬ B.F b
 fl : ∀ b,B.F b→b<c.w.heap.size
 j0 : ∀ b e cap n,¬ St0.j b e cap n
 junk : ∀ b e cap n,c.St.j b e cap n→St0.j b e cap n∨Jk B c b e cap n
theorem Jk.keep {B:Bd} {c c':Gh} {b:Nat} {e:TypeId} {cap n:Nat} (h:Jk B c b e cap n) (hw:c'.w.heap[b]? = c.w.heap[b]?) (hs : ∀ o,c'.St b o→c.St b o) (ho : ∀ k,obk c' k=some b→obk c k=some b):Jk B c' b e cap n :=
 ⟨h.lo,h.nf,h.le,by rw [hw]; exact h.cells,fun o x=>h.free o (hs o x),fun k x=>h.own k (ho k x)⟩
structure NJ (base:Nat) (w:World) (St:Sb) (b:Nat) (e:TypeId) (cap n:Nat):Prop where
 lo:base≤b
 le:n≤cap∧cap≤maxLen
 cells : ∃ arr,w.heap[b]? = some (.cells arr e (0,0))∧arr.size=cap ∧ ∀ u∈arr.toList,u.oneCell'=true
 free : ∀ o,¬ St b o
theorem Jk.lt {B:Bd} {c:Gh} {b:Nat} {e:TypeId} {cap n:Nat} (h:Jk B c b e cap n):b<c.w.heap.size:=by
 obtain ⟨arr,h,_⟩:=h.cells
 exact (Array.getElem?_eq_some_iff.1 h).1
theorem Gl {B:Bd} {w0:World} {St0:Sb} {c:Gh} (h:Inv B w0 St0 c) {k b:Nat} (hb:obk c k=some b) : ∃ arr t m,c.w.heap[b]? = some (.cells arr t m):=by
 unfold obk at hb
 split at hb
 ·rename_i cells hk
  obtain ⟨arr,t,h1,_⟩:=h.box k cells hk
  have:=Option.some.inj hb
  subst this
  exact ⟨arr,t,_,h1⟩
 ·rename_i t e v hk
  obtain ⟨n,xs,ho,_⟩:=h.row k t e v hk
  rcases ho.2 with ⟨x,_⟩ | ⟨g,cap,cur,e1,e2,e3,r⟩
  ·rw [x] at hb; cases hb
  ·rw [e1] at hb
   injection hb with hb
   subst hb
   exact ⟨_,_,_,e3⟩
 ·rename_i t e v l hk
  obtain ⟨xs,ho,_⟩:=h.mrow k t e v l hk
  rcases ho.2 with ⟨x,_⟩ | ⟨g,cap,cur,e1,e2,e3,r⟩
  ·rw [x] at hb; cases hb
  ·rw [e1] at hb
   injection hb with hb
   subst hb
   exact ⟨_,_,_,e3⟩
 ·cases hb
theorem dO {B:Bd} {w0:World} {St0:Sb} {c:Gh} (h:Inv B w0 St0 c) {k b:Nat} (hb:obk c k=some b):b<c.w.heap.size∧B≤b:=by
 unfold obk at hb
 split at hb
 ·rename_i cells hk
  obtain ⟨arr,t,h1,h2,_⟩:=h.box k cells hk
  have:=Option.some.inj hb
  subst this
  exact ⟨(Array.getElem?_eq_some_iff.1 h1).1,h2⟩
 ·rename_i t e v hk
  obtain ⟨n,xs,ho,_⟩:=h.row k t e v hk
  have:=ho.lt b hb
  exact ⟨this.2,this.1⟩
 ·rename_i t e v l hk
  obtain ⟨xs,ho,_⟩:=h.mrow k t e v l hk
  have:=ho.lt b hb
  exact ⟨this.2,this.1⟩
 ·cases hb
end Go.Proofs.YtboikinjlmjgjaaGreat.Abs
