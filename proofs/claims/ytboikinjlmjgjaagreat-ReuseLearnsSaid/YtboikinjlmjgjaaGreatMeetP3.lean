/- The reference's functions: one by one into an ascending list. -/
import Derived.Test.YtboikinjlmjgjaaGreatGenP
import Derived.Test.YtboikinjlmjgjaaGreatSort
namespace Go.Proofs.YtboikinjlmjgjaaGreat.Abs
open Go
structure PreCmp {α:Type} (c:α→α→Int):Prop where
 neg : ∀ x y,c y x = - c x y
 rng : ∀ x y,c x y = -1∨c x y=0∨c x y=1
 trans : ∀ x y z,c x y≤0→c y z≤0→c x z≤0
theorem PreCmp.lt {α:Type} {c:α→α→Int} (h:PreCmp c) {x y z:α} (h1:c x y<0) (h2:c y z≤0):c x z<0:=by
 have a:=h.trans x y z (by omega) h2
 rcases h.rng x z with r | r | r
 ·omega
 ·have b:=h.trans y z x h2 (by rw [h.neg x z]; omega)
  rw [h.neg x y] at b; omega
 ·omega
theorem PreCmp.lt' {α:Type} {c:α→α→Int} (h:PreCmp c) {x y z:α} (h1:c x y≤0) (h2:c y z<0):c x z<0:=by
 have a:=h.trans x y z h1 (by omega)
 rcases h.rng x z with r | r | r
 ·omega
 ·have b:=h.trans z x y (by rw [h.neg x z]; omega) h1
  rw [h.neg y z] at b; omega
 ·omega
theorem PreCmp.comap {α β:Type} {c:α→α→Int} (h:PreCmp c) (f:β→α):PreCmp (fun x y=>c (f x) (f y)) :=
 ⟨fun _ _=>h.neg _ _,fun _ _=>h.rng _ _,fun _ _ _=>h.trans _ _ _⟩
theorem Gj (a b:Int) (_:a = -1∨a=0∨a=1):bM a b≤0↔a<0∨(a=0∧b≤0):=by
 unfold bM; split <;> omega
theorem PreCmp.lex {α:Type} {c d:α→α→Int} (h:PreCmp c) (g:PreCmp d):PreCmp (fun x y=>bM (c x y) (d x y)):=by
 refine ⟨fun x y => ?_,fun x y => ?_,fun x y z h1 h2 => ?_⟩
 ·have:=h.neg x y; have:=g.neg x y
  unfold bM; split <;> split <;> omega
 ·have:=h.rng x y; have:=g.rng x y
  unfold bM; split <;> omega
 ·simp only [Gj _ _ (h.rng _ _)] at h1 h2 ⊢
  rcases h1 with h1 | ⟨h1,h1'⟩
  ·rcases h2 with h2 | ⟨h2,h2'⟩
   ·exact .inl (h.lt h1 (by omega))
   ·exact .inl (h.lt h1 (by omega))
  ·rcases h2 with h2 | ⟨h2,h2'⟩
   ·exact .inl (h.lt' (by omega) h2)
   ·refine .inr ⟨?_,g.trans x y z h1' h2'⟩
    have a:=h.trans x y z (by omega) (by omega)
    have b:=h.trans z y x (by rw [h.neg y z]; omega) (by rw [h.neg x y]; omega)
    rw [h.neg x z] at b; omega
theorem oH:PreCmp lz:=by
 refine ⟨fun x y => ?_,fun x y => ?_,fun x y z h1 h2 => ?_⟩ <;> simp only [lz] at *
 ·repeat' split
  all_goals omega
 ·repeat' split
  all_goals omega
 ·revert h1 h2
  repeat' split
  all_goals omega
def oF {α:Type} (c:α→α→Int):List α→List α→Int
 | [],[]=>0
 | [],_::_ => -1
 | _::_,[]=>1
 | x::a,y::b=>bM (c x y) (oF c a b)
theorem Nm {α:Type} {c:α→α→Int} (h:PreCmp c):PreCmp (oF c):=by
 refine ⟨fun x => ?_,fun x => ?_,fun x => ?_⟩
 ·induction x with
  | nil=>intro y; cases y <;> rfl
  | cons x a ih=>intro y; cases y with
   | nil=>rfl
   | cons y b =>
    have:=h.neg x y; have:=ih b
    simp only [oF,bM]; split <;> split <;> omega
 ·induction x with
  | nil=>intro y; cases y <;> simp [oF]
  | cons x a ih=>intro y; cases y with
   | nil=>simp [oF]
   | cons y b =>
    have:=h.rng x y; have:=ih b
    simp only [oF,bM]; split <;> omega
 ·induction x with
  | nil=>intro y z h1 h2; cases z <;> simp [oF]
  | cons x a ih =>
   intro y z h1 h2
   cases y with
   | nil=>simp [oF] at h1
   | cons y b=>cases z with
    | nil=>simp [oF] at h2
    | cons z d =>
     simp only [oF,Gj _ _ (h.rng _ _)] at h1 h2 ⊢
     rcases h1 with h1 | ⟨h1,h1'⟩
     ·rcases h2 with h2 | ⟨h2,h2'⟩
      ·exact .inl (h.lt h1 (by omega))
      ·exact .inl (h.lt h1 (by omega))
     ·rcases h2 with h2 | ⟨h2,h2'⟩
      ·exact .inl (h.lt' (by omega) h2)
      ·refine .inr ⟨?_,ih b d h1' h2'⟩
       have a:=h.trans x y z (by omega) (by omega)
       have b:=h.trans z y x (by rw [h.neg y z]; omega) (by rw [h.neg x y]; omega)
       rw [h.neg x z] at b; omega
theorem yD {α:Type} {c:α→α→Int} (h : ∀ x y,c x y=0→x=y) : ∀ a b,oF c a b=0→a=b
 | [],[],_=>rfl
 | [],_::_,e=>by simp [oF] at e
 | _::_,[],e=>by simp [oF] at e
 | x::a,y::b,e=>by
  simp only [oF,bM] at e
  split at e
  ·rename_i g; rw [h x y g,yD h a b e]
  ·contradiction
def ajL (x y:UInt8):Int:=lz x.toNat y.toNat
theorem HX : ∀ a b,vT a b=oF ajL a b
 | [],[]=>rfl
 | [],_::_=>rfl
 | _::_,[]=>rfl
 | x::a,y::b=>by
  have ih:=HX a b
  simp only [vT] at ih
  simp only [vT,oF,ajL,bM,lz,Op.bytesLess, ← ih]
  have e : ∀ u v:UInt8,(u<v)↔u.toNat<v.toNat:=fun u v=>UInt8.lt_iff_toNat_lt
  have e' : ∀ u v:UInt8,u=v↔u.toNat=v.toNat:=fun u v=>UInt8.toNat_inj.symm
  simp only [Bool.or_eq_true,Bool.and_eq_true,decide_eq_true_eq,beq_iff_eq,e,e']
  rcases Nat.lt_trichotomy x.toNat y.toNat with g | g | g
  ·have g1 : ¬ y.toNat<x.toNat:=by omega
   simp [g]
  ·simp [g]
  ·have g1 : ¬ x.toNat<y.toNat:=by omega
   have g2 : ¬ x.toNat=y.toNat:=by omega
   have g3 : ¬ (x.toNat:Int)<(y.toNat:Int):=by omega
   have g4:(y.toNat:Int)<(x.toNat:Int):=by omega
   simp [g,g1,g2]
theorem X5:PreCmp vT:=by
 have:vT=oF ajL:=by funext a b; exact HX a b
 rw [this]; exact Nm (oH.comap (fun x:UInt8=>(x.toNat:Int)))
theorem kp {x y:Int} (h:lz x y=0):x=y:=by
 simp only [lz] at h; split at h
 ·omega
 ·split at h <;> omega
theorem yg {a b:Str} (h:vT a b=0):a=b:=by
 rw [HX] at h
 refine yD (fun x y e => ?_) a b h
 have:=kp e
 exact UInt8.toNat_inj.1 (by omega)
theorem adK {a b:Bool} (h:num a=num b):a=b:=by cases a <;> cases b <;> simp [num] at h ⊢
theorem fY {a b:Int} (h:bM a b=0):a=0∧b=0:=by
 unfold bM at h; split at h
 ·rename_i g; exact ⟨g,h⟩
 ·contradiction
theorem ld:PreCmp bt :=
 (oH.comap fun a:Val=>a.1).lex ((oH.comap fun a:Val=>num a.2.1).lex ((X5.comap fun a:Val=>a.2.2.1).lex (oH.comap fun a:Val=>a.2.2.2.1)))
theorem hX {a b:Val} (h:bt a b=0):a=b:=by
 obtain ⟨h1,h⟩:=fY h
 obtain ⟨h2,h⟩:=fY h
 obtain ⟨h3,h4⟩:=fY h
 replace h1:=kp h1
 replace h2:=adK (kp h2)
 replace h3:=yg h3
 replace h4:=kp h4
 obtain ⟨a1,a2,a3,a4,a5⟩:=a
 obtain ⟨b1,b2,b3,b4,b5⟩:=b
 simp only at h1 h2 h3 h4
 subst h1 h2 h3 h4
 rfl
theorem Ez : ∀ a b,el a b=oF bt a b
 | [],[]=>rfl
 | [],_::_=>rfl
 | _::_,[]=>rfl
 | x::a,y::b=>by simp only [el,oF,Ez a b]
theorem ab6:PreCmp el:=by
 have:el=oF bt:=by funext a b; exact Ez a b
 rw [this]; exact Nm ld
theorem WY {a b:List Val} (h:el a b=0):a=b:=by
 rw [Ez] at h; exact yD (fun _ _=>hX) a b h
theorem OG:PreCmp gW :=
 (oH.comap fun a:Rec=>a.1).lex ((oH.comap fun a:Rec=>a.2.1).lex ((ab6.comap fun a:Rec=>a.2.2.1).lex (ld.comap fun a:Rec=>a.2.2.2.1)))
theorem WX {a b:Rec} (h:gW a b=0):a=b:=by
 obtain ⟨h1,h⟩:=fY h
 obtain ⟨h2,h⟩:=fY h
 obtain ⟨h3,h4⟩:=fY h
 replace h1:=kp h1
 replace h2:=kp h2
 replace h3:=WY h3
 replace h4:=hX h4
 obtain ⟨a1,a2,a3,a4,a5⟩:=a
 obtain ⟨b1,b2,b3,b4,b5⟩:=b
 simp only at h1 h2 h3 h4
 subst h1 h2 h3 h4
 rfl
theorem PreCmp.refl {α:Type} {c:α→α→Int} (h:PreCmp c) (x:α):c x x=0:=by
 have:=h.neg x x; omega
theorem PreCmp.total {α:Type} {c:α→α→Int} (h:PreCmp c) (hz : ∀ {x y},c x y=0→x=y):TotalCmp c:=by
 refine ⟨fun x y => ?_,h.trans,fun x y h1 h2=>hz ?_,fun x y => ?_⟩ <;> (have:=h.neg x y; have:=h.rng x y; omega)
theorem P7:TotalCmp bt:=ld.total hX
theorem Ew:TotalCmp gW:=OG.total WX
theorem afw (a b:Val):eqD ap a b=true↔a=b:=by
 obtain ⟨a1,a2,a3,a4,a5⟩:=a
 obtain ⟨b1,b2,b3,b4,b5⟩:=b
 simp only [eqD,Bool.and_eq_true,decide_eq_true_eq,Prod.mk.injEq]
theorem BA (a b:Val):eqD ap a b=decide (bt a b=0):=by
 rw [Bool.eq_iff_iff,afw,decide_eq_true_iff]
 exact ⟨fun h=>by rw [h]; exact ld.refl b,hX⟩
def Asc {α:Type} (c:α→α→Int) (l:List α):Prop:=l.Pairwise (fun a b=>c a b<0)
theorem SJ {α:Type} {c:α→α→Int} (h:PreCmp c) {l l':List α} (hl:Asc c l) (hl':Asc c l') (hm : ∀ x,x∈l↔x∈l'):l=l':=by
 have nd : ∀ {l:List α},Asc c l→l.Nodup:=fun hl=>List.Pairwise.imp (fun {a b} g e=>by subst e; have:=h.refl a; omega) hl
 have hp:l.Perm l':=(List.perm_ext_iff_of_nodup (nd hl) (nd hl')).2 hm
 refine List.Perm.eq_of_pairwise (le:=fun a b=>c a b<0) (fun a b _ _ h1 h2 => ?_) hl hl' hp
 have:=h.neg a b; omega
theorem Un {α:Type} {p:α→Bool} : ∀ {l:List α},(∀ y∈l,p y=true)→l.dropWhile p=[]
 | [],_=>rfl
 | y::l,h=>by rw [List.dropWhile_cons_of_pos (h y (List.mem_cons_self ..))]; exact Un fun z hz=>h z (List.mem_cons_of_mem _ hz)
theorem IV {α:Type} (c:α→α→Int) (x:α) : ∀ (r l:List α),(∀ y∈r,c y x>0) →
  ∀ t,t=l.reverse→pP c (l++r) x=(match t with | []=>x::(l++r) | y::_=>if c y x>0 then pP c (l++r) x else if c y x=0 then l++r else l++x::r):=by
 intro r l hr t ht
 have hl:l=t.reverse:=by rw [ht]; simp
 have hdw:(l++r).reverse.dropWhile (fun y=>decide (c y x>0))=t.dropWhile (fun y=>decide (c y x>0)):=by
  rw [List.reverse_append,List.dropWhile_append]
  have:r.reverse.dropWhile (fun y=>decide (c y x>0))=[]:=by
   exact Un fun y hy=>by simpa using hr y (by simpa using hy)
  rw [this,ht]; rfl
 cases t with
 | nil=>simp only [pP]; rw [hdw]; rfl
 | cons y t =>
  simp only
  by_cases h1:c y x>0
  ·rw [if_pos h1]
  ·rw [if_neg h1]
   simp only [pP]
   rw [hdw,List.dropWhile_cons_of_neg (by simpa using h1)]
   simp only
   by_cases h2:c y x=0
   ·rw [if_pos h2,if_pos h2]
   ·rw [if_neg h2,if_neg h2, ← hl]
    congr 2
    have:(y::t).length=l.length:=by rw [hl]; simp
    rw [this]; simp
end Go.Proofs.YtboikinjlmjgjaaGreat.Abs
namespace Go.Proofs.YtboikinjlmjgjaaGreat.Abs
open Go
section
variable {α:Type} {c:α→α→Int}
theorem Nv {x:α} {r:List α} (hr : ∀ y∈r,c y x>0):pP c r x=x::r:=IV c x r [] hr [] rfl
theorem GE {x y:α} {p r:List α} (hr : ∀ z∈r,c z x>0) (hy:c y x=0):pP c ((p++[y])++r) x=(p++[y])++r:=by
 have:=IV c x r (p++[y]) hr (y::p.reverse) (by simp)
 simp only at this
 rw [if_neg (by omega),if_pos hy] at this; exact this
theorem Nx {x y:α} {p r:List α} (hr : ∀ z∈r,c z x>0) (hy:c y x<0):pP c ((p++[y])++r) x=(p++[y])++x::r:=by
 have:=IV c x r (p++[y]) hr (y::p.reverse) (by simp)
 simp only at this
 rw [if_neg (by omega),if_neg (by omega)] at this; exact this
theorem LZ (c:α→α→Int) (x:α) : ∀ t:List α,∃ p r,t.reverse=p++r∧(∀ y∈r,c y x>0)∧(p=[] ∨ ∃ q y,p=q++[y]∧c y x≤0)
 | []=>⟨[],[],rfl,(fun _ h=>by cases h),.inl rfl⟩
 | y::t=>by
  by_cases h:c y x≤0
  ·exact ⟨t.reverse++[y],[],by simp,(fun _ h=>by cases h),.inr ⟨_,_,rfl,h⟩⟩
  ·obtain ⟨p,r,h1,h2,h3⟩:=LZ c x t
   refine ⟨p,r++[y],by simp [h1],fun z hz => ?_,h3⟩
   rcases List.mem_append.1 hz with hz | hz
   ·exact h2 z hz
   ·rw [List.mem_singleton.1 hz]; omega
theorem QQ (c:α→α→Int) (x:α) (l:List α) : ∃ p r,l=p++r∧(∀ y∈r,c y x>0)∧(p=[] ∨ ∃ q y,p=q++[y]∧c y x≤0):=by
 obtain ⟨p,r,h1,h2⟩:=LZ c x l.reverse
 exact ⟨p,r,by simpa using h1,h2⟩
theorem Y7 (h:PreCmp c) (hz : ∀ {x y},c x y=0→x=y) {l:List α} (x:α) (hl:Asc c l):Asc c (pP c l x)∧(∀ z,z∈pP c l x↔z∈l∨z=x)∧(pP c l x).length≤l.length+1:=by
 obtain ⟨p,r,rfl,hr,hp⟩:=QQ c x l
 rcases hp with rfl | ⟨q,y,rfl,hy⟩
 ·rw [List.nil_append,Nv hr]
  refine ⟨List.pairwise_cons.2 ⟨fun z hz => ?_,hl⟩,fun z=>by simp [or_comm],by simp⟩
  have:=hr z hz; have:=h.neg z x; omega
 ·by_cases h0:c y x=0
  ·rw [GE hr h0]
   refine ⟨hl,fun z=>⟨.inl,fun hz' => ?_⟩,by simp⟩
   rcases hz' with hz' | rfl
   ·exact hz'
   ·rw [← hz h0]; simp
  ·have hy':c y x<0:=by omega
   rw [Nx hr hy']
   refine ⟨?_,fun z=>by simp; grind,by simp; omega⟩
   have hl':=hl
   unfold Asc at hl' ⊢
   rw [List.pairwise_append] at hl' ⊢
   refine ⟨hl'.1,List.pairwise_cons.2 ⟨fun z hz => ?_,hl'.2.1⟩,fun a ha b hb => ?_⟩
   ·have:=hr z hz; have:=h.neg z x; omega
   ·rcases List.mem_cons.1 hb with rfl | hb
    ·rcases List.mem_append.1 ha with ha | ha
     ·have:=(List.pairwise_append.1 hl'.1).2.2 a ha y (by simp)
      exact h.lt this (by omega)
     ·rw [List.mem_singleton.1 ha]; exact hy'
    ·exact hl'.2.2 a ha b hb
theorem tq (h:PreCmp c) (hz : ∀ {x y},c x y=0→x=y) : ∀ (xs l:List α),Asc c l→Asc c (xs.foldl (pP c) l)∧(∀ z,z∈xs.foldl (pP c) l↔z∈l∨z∈xs)∧(xs.foldl (pP c) l).length≤l.length+xs.length
 | [],l,hl=>⟨hl,fun z=>by simp,by simp⟩
 | x::xs,l,hl=>by
  obtain ⟨a1,a2,a3⟩:=Y7 h hz x hl
  obtain ⟨b1,b2,b3⟩:=tq h hz xs _ a1
  refine ⟨b1,fun z => ?_, ?_⟩
  ·rw [List.foldl_cons,b2,a2]; simp [or_assoc]
  ·simp only [List.foldl_cons,List.length_cons]; omega
def dd (c:α→α→Int):α→List α→List α
 | _,[]=>[]
 | p,x::r=>if c x p=0 then dd c x r else x::dd c x r
theorem abR (h:PreCmp c) (hz : ∀ {x y},c x y=0→x=y) : ∀ (r:List α) (p:α),(p::r).Pairwise (fun a b=>c a b≤0)→Asc c (p::dd c p r)∧(∀ z,z∈p::dd c p r↔z∈p::r)
 | [],p,_=>⟨by simp [dd,Asc],fun z=>by simp [dd]⟩
 | x::r,p,hs=>by
  obtain ⟨h1,h2⟩:=List.pairwise_cons.1 hs
  obtain ⟨a1,a2⟩:=abR h hz r x h2
  by_cases h0:c x p=0
  ·have e:=hz h0; subst e
   simp only [dd,h0,if_true]
   exact ⟨a1,fun z=>by rw [a2]; simp⟩
  ·simp only [dd,h0,if_false]
   refine ⟨List.pairwise_cons.2 ⟨fun z hz' => ?_,a1⟩,fun z=>by rw [List.mem_cons,a2]; simp⟩
   have hx:c p x<0:=by have:=h1 x (by simp); have:=h.neg x p; omega
   rcases List.mem_cons.1 hz' with rfl | hz'
   ·exact hx
   ·exact h.lt hx (by have:=(List.pairwise_cons.1 a1).1 z hz'; omega)
theorem Wx (h:PreCmp c) (hz : ∀ {x y},c x y=0→x=y) (l:List α):l.foldl (pP c) []=(match dv c l with | []=>[] | y::r=>y::dd c y r):=by
 obtain ⟨a1,a2,_⟩:=tq h hz l [] List.Pairwise.nil
 have hp:=hU c l
 have hs:=vN (h.total hz) l
 cases e:dv c l with
 | nil=>rw [e] at hp; rw [← hp.nil_eq]; rfl
 | cons y r =>
  rw [e] at hs hp
  obtain ⟨b1,b2⟩:=abR h hz r y hs
  refine SJ h a1 b1 fun z => ?_
  rw [a2,b2,hp.mem_iff]; simp
end
end Go.Proofs.YtboikinjlmjgjaaGreat.Abs
namespace Go.Proofs.YtboikinjlmjgjaaGreat.Abs
open Go
theorem QM (x:Str):iz x=false:=by simp [iz]
theorem UU (b:Bool):uw b=num b:=by cases b <;> rfl
theorem Hd : ∀ a:Str,Op.bytesLess a a=false
 | []=>rfl
 | x::a=>by simp [Op.bytesLess,Hd a]
theorem ab2 (x y:Str):Ha x y=vT x y:=by
 simp only [Ha,QM,cond_false]
 by_cases h:Op.bytesLess x y=true
 ·simp [vT,h]
 ·have h:Op.bytesLess x y=false:=by simpa using h
  by_cases h':Op.bytesLess y x=true
  ·have:x≠y:=by rintro rfl; rw [h] at h'; cases h'
   simp [vT,h,h',this]
  ·have h':Op.bytesLess y x=false:=by simpa using h'
   have:x=y:=yg (by simp [vT,h,h'])
   subst this
   simp [vT,Hd]
theorem MR (a b c d:Int):orF [a,b,c,d]=bM a (bM b (bM c d)):=by
 simp only [orF,bM,List.find?_cons,List.find?_nil]
 by_cases h1:a=0 <;> by_cases h2:b=0 <;> by_cases h3:c=0 <;> by_cases h4:d=0 <;> simp [h1,h2,h3,h4]
theorem Gx (a b c d:Int):QC [a,b,c,d]=true:=rfl
theorem P8 (a b:Val) : ∃ fuel,CI fuel a b=some (.val aa (bt a b)) :=
 ⟨0,by
  rw [adt,Gx]
  simp only [cond_true,MR,rI,UU,ab2]; rfl⟩
theorem OY (a b:Val) : ∃ fuel,vk fuel a b=some (.val aa (bt a b)) :=
 ⟨0,by
  rw [acJ,BJ,BJ,OZ,BA]
  by_cases h0:bt a b=0
  ·simp [h0]
  ·rw [df h0,cond_false]
   obtain ⟨a1,a2,a3,a4,a5⟩:=a
   obtain ⟨b1,b2,b3,b4,b5⟩:=b
   revert h0
   simp only [bt,bM,lz,vT]
   rcases Int.lt_trichotomy a1 b1 with h1 | h1 | h1
   ·have g : ¬ a1=b1:=Int.ne_of_lt h1
    simp [h1,g]
   ·subst h1
    by_cases h2:a2=b2
    ·subst h2
     by_cases h3:Op.bytesLess a3 b3=true
     ·simp [h3]
     ·have h3:Op.bytesLess a3 b3=false:=by simpa using h3
      by_cases h4:Op.bytesLess b3 a3=true
      ·have g:a3≠b3:=by rintro rfl; rw [h3] at h4; cases h4
       simp [h3,h4,g]
      ·have h4:Op.bytesLess b3 a3=false:=by simpa using h4
       have g:a3=b3:=yg (by simp [vT,h3,h4])
       subst g
       rcases Int.lt_trichotomy a4 b4 with h5 | h5 | h5
       ·simp [h3,h5]
       ·subst h5; simp [h3]
       ·have g : ¬ a4<b4:=Int.not_lt.2 (Int.le_of_lt h5)
        simp [h3,h5,g]
    ·cases a2 <;> cases b2 <;> simp [num] at h2 ⊢
   ·have g : ¬ a1=b1:=Int.ne_of_gt h1
    have g' : ¬ a1<b1:=Int.not_lt.2 (Int.le_of_lt h1)
    simp [h1,g,g']⟩
theorem FO {a b:List Val} (h:uv a b=true):a.length≤4294967296∧b.length≤4294967296:=by
 simp only [uv,Bool.and_eq_true,decide_eq_true_eq] at h; exact h
theorem SA (fuel:Nat) : ∀ (n:Nat) (r s p q:List Val),r.length<n→(p++r).length≤4294967296→p.length=q.length →
  xK fuel n (p++r) (q++s) (p.length:Int)=some (.val aa (el r s)):=by
 intro n
 induction n with
 | zero=>intro r s p q h; omega
 | succ n ih =>
  intro r s p q h hl hpq
  cases r with
  | nil =>
   rw [rH,ib]
   cases s with
   | nil=>rw [df (p:=((p++([]:List Val)).length:Int)<_) (by simp; omega)]; rfl
   | cons d s=>rw [dt (p:=((p++([]:List Val)).length:Int)<_) (by simp; omega)]; rfl
  | cons c r =>
   cases s with
   | nil =>
    rw [rH,dE,hZ,dt (p:=(p.length:Int)≥_) (by simp; omega)]; rfl
   | cons d s =>
   have hl':p.length+(r.length+1)≤4294967296:=by simpa using hl
   have next:=ih r s (p++[c]) (q++[d]) (by simp at h; omega) (by simp; omega) (by simp; omega)
   rw [← ma, ← ma, ← fK p c (by omega)] at next
   rw [rH,bQ,dE,hZ,next]
   rw [df (p:=(p.length:Int)≥_) (by simp; omega),hpq,bQ,dE]
   simp only [cond_true,cond_false,Bool.and_self,el,bM]
   by_cases h0:bt c d=0 <;> simp [h0]
theorem OB (a b:List Val) (h:uv a b=true) : ∃ fuel,za fuel a b=some (.val aa (el a b)) :=
 ⟨a.length+1,by rw [abT]; exact SA _ (a.length+1) a b [] [] (by omega) (FO h).1 rfl⟩
theorem O2 (fuel:Nat) : ∀ (n:Nat) (r s p q:List Val),r.length<n→(p++r).length≤4294967296→p.length=q.length →
  nC fuel n (p++r) (q++s) (p.length:Int)=some (.val aa (el r s)):=by
 intro n
 induction n with
 | zero=>intro r s p q h; omega
 | succ n ih =>
  intro r s p q h hl hpq
  cases r with
  | nil =>
   rw [qn,ib]
   cases s with
   | nil=>rw [df (p:=((p++([]:List Val)).length:Int)<_) (by simp; omega),df (p:=((p++([]:List Val)).length:Int)>_) (by simp; omega)]; rfl
   | cons d s=>rw [dt (p:=((p++([]:List Val)).length:Int)<_) (by simp; omega)]; rfl
  | cons c r =>
   cases s with
   | nil =>
    rw [qn,dE,df (p:=(p.length:Int)<((q++([]:List Val)).length:Int)) (by simp; omega),df (p:=((p++c::r).length:Int)<_) (by simp; omega),dt (p:=((p++c::r).length:Int)>_) (by simp; omega)]; rfl
   | cons d s =>
   have hl':p.length+(r.length+1)≤4294967296:=by simpa using hl
   have next:=ih r s (p++[c]) (q++[d]) (by simp at h; omega) (by simp; omega) (by simp; omega)
   rw [← ma, ← ma, ← fK p c (by omega)] at next
   rw [qn,bQ,dE,hZ,next]
   rw [hpq,bQ,dE]
   simp only [cond_true,Bool.and_self,el,bM]
   by_cases h0:bt c d=0 <;> simp [h0]
theorem Lc (a b:List Val) (h:uv a b=true) : ∃ fuel,ya fuel a b=some (.val aa (el a b)) :=
 ⟨a.length+1,by rw [Xq]; exact O2 _ (a.length+1) a b [] [] (by omega) (FO h).1 rfl⟩
theorem SC (a b:Rec) (h:B2 a b=true) : ∃ fuel,Ey fuel a b=some (.val aa (gW a b)) :=
 ⟨0,by
  rw [afK,Gx,show uv a.2.2.1 b.2.2.1=true from h]
  simp only [cond_true,MR,rI]; rfl⟩
theorem Lb (a b:Rec) (h:B2 a b=true) : ∃ fuel,rY fuel a b=some (.val aa (gW a b)) :=
 ⟨0,by
  rw [Xo,show uv a.2.2.1 b.2.2.1=true from h]
  simp only [cond_true,gW,bM,lz,jC]
  rcases Int.lt_trichotomy a.1 b.1 with h1 | h1 | h1
  ·have g : ¬ a.1=b.1:=Int.ne_of_lt h1
   simp [h1,g]
  ·rw [h1]
   rcases Int.lt_trichotomy a.2.1 b.2.1 with h2 | h2 | h2
   ·have g : ¬ a.2.1=b.2.1:=Int.ne_of_lt h2
    simp [h2,g]
   ·rw [h2]
    by_cases h3:el a.2.2.1 b.2.2.1=0 <;> simp [h3]
   ·have g : ¬ a.2.1=b.2.1:=Int.ne_of_gt h2
    have g' : ¬ a.2.1<b.2.1:=Int.not_lt.2 (Int.le_of_lt h2)
    simp [h2,g,g']
  ·have g : ¬ a.1=b.1:=Int.ne_of_gt h1
   have g' : ¬ a.1<b.1:=Int.not_lt.2 (Int.le_of_lt h1)
   simp [h1,g,g']⟩
end Go.Proofs.YtboikinjlmjgjaaGreat.Abs
namespace Go.Proofs.YtboikinjlmjgjaaGreat.Abs
open Go
theorem S6 {a b:Rec} (h1:zK a=true) (h2:zK b=true):B2 a b=true:=by
 simp only [zK,decide_eq_true_eq] at h1 h2
 simp [B2,uv,h1,h2]
theorem tV {α:Type} : ∀ (s:List α) (k:Nat) (x:α),k<s.length→(s.set k x).take (k+1)=s.take k++[x]
 | [],_,_,h=>by simp at h
 | y::s,0,x,_=>by simp
 | y::s,k+1,x,h=>by
  have:=tV s k x (by simpa using h)
  simp only [List.set_cons_succ,List.take_succ_cons,this,List.cons_append]
theorem Pd (fuel n4:Nat) (out_hi:Nat) (l:List Alt) (t8:Int) : ∀ (n:Nat) (aL:List Val) (prev:Val) (s:List Val) (k lo j:Nat),aL.length<n→s.length≤4294967296→k<lo+j→1≤j→s.drop (lo+j-1)=prev::aL →
  dz fuel n4 n out_hi l t8 s.length (k:Int) lo s.length (j:Int) s=some (.val (.slice ap) (s.take k++dd bt prev aL)):=by
 intro n
 induction n with
 | zero=>intro aL prev s k lo j h; omega
 | succ n ih =>
  intro aL prev s k lo j h hl hk hj hd
  have hlen:lo+j+aL.length=s.length:=by
   have:=congrArg List.length hd; simp at this; omega
  cases aL with
  | nil =>
   simp at hlen
   rw [mo,df (p:=(j:Int)<_) (by omega),dt (p:=(0:Int)≤(k:Int)) (by omega),dt (p:=(k:Int)≤_) (by omega)]
   simp only [cond_true,cond_false,Bool.and_self,Int.toNat_natCast,List.drop_zero,dd,List.append_nil]
   rw [List.append_assoc,List.take_append_of_le_length (by simp; omega),List.take_take,Nat.min_self]
  | cons x aL =>
   simp only [List.length_cons] at hlen h
   have g1:s.getD (lo+(j-1)) (zero ap)=prev:=by
    have:s[lo+j-1]? = some prev:=by
     have:=congrArg (fun l=>l[0]?) hd; simpa using this
    rw [show lo+(j-1)=lo+j-1 by omega,List.getD_eq_getElem?_getD,this]; rfl
   have hd2:s.drop (lo+j)=x::aL:=by
    have:=congrArg List.tail hd
    rw [List.tail_drop,show lo+j-1+1=lo+j by omega] at this; exact this
   have g2:s.getD (lo+j) (zero ap)=x:=by
    have:s[lo+j]? = some x:=by
     have:=congrArg (fun l=>l[0]?) hd2; simpa using this
    rw [List.getD_eq_getElem?_getD,this]; rfl
   have e1:w64 ((j:Int)-1)=((j-1:Nat):Int):=by rw [gY (by omega) (by omega)]; omega
   have e2:w64 ((j:Int)+1)=((j+1:Nat):Int):=by rw [gY (by omega) (by omega)]; omega
   have e3:w64 ((k:Int)+1)=((k+1:Nat):Int):=by rw [gY (by omega) (by omega)]; omega
   rw [mo,e1]
   simp only [Int.toNat_natCast,g1,g2]
   rw [dt (p:=(j:Int)<_) (by omega),dt (p:=(0:Int)≤(j:Int)) (by omega),dt (p:=(0:Int)≤((j-1:Nat):Int)) (by omega),dt (p:=((j-1:Nat):Int)<_) (by omega),
    dt (p:=(0:Int)≤(k:Int)) (by omega),dt (p:=(k:Int)<_) (by omega),kB,kB,e2,e3,BA]
   simp only [cond_true,Bool.and_self,dd]
   by_cases h0:bt x prev=0
   ·have next:=ih aL x s k lo (j+1) (by omega) hl (by omega) (by omega) (by rw [show lo+(j+1)-1=lo+j by omega]; exact hd2)
    rw [dt h0,next]; simp [h0]
   ·have next:=ih aL x (s.set k x) (k+1) lo (j+1) (by omega) (by simpa using hl) (by omega) (by omega) (by
     rw [show lo+(j+1)-1=lo+j by omega,List.drop_set_of_lt (by omega)]; exact hd2)
    rw [List.length_set] at next
    rw [df h0]
    simp only [Bool.not_false,cond_true,h0,if_false]
    rw [next]
    rw [tV s k x (by omega)]; simp
theorem Pe (fuel:Nat) (out_hi:Nat) (l:List Alt) (t8:Int) : ∀ (n:Nat) (aL:List Val) (prev:Val) (pre:List Val),aL.length<n→aL.length<fuel→(pre++prev::aL).length≤4294967296 →
  dA fuel n out_hi l t8 (pre++prev::aL).length (((pre.length+1:Nat)):Int) (pre++prev::aL)=some (.val (.slice ap) (pre++prev::dd bt prev aL)):=by
 intro n
 induction n with
 | zero=>intro aL prev pre h; omega
 | succ n ih =>
  intro aL prev pre h hf hl
  cases aL with
  | nil =>
   rw [mp,df (p:=((pre.length+1:Nat):Int)<_) (by simp)]
   simp only [cond_false,dd,List.take_length,List.drop_zero]
  | cons x aL =>
   simp only [List.length_cons] at h hf
   have hlen:(pre++prev::x::aL).length=pre.length+2+aL.length:=by simp; omega
   have g1:(pre++prev::x::aL).getD pre.length (zero ap)=prev:=by simp
   have g2:(pre++prev::x::aL).getD (pre.length+1) (zero ap)=x:=by
    rw [show pre++prev::x::aL=(pre++[prev])++x::aL by simp,show pre.length+1=(pre++[prev]).length by simp]
    simp
   have e1:w64 (((pre.length+1:Nat):Int)-1)=(pre.length:Int):=by rw [gY (by omega) (by omega)]; omega
   have e2:w64 (((pre.length+1:Nat):Int)+1)=(((pre++[prev]).length+1:Nat):Int):=by rw [gY (by omega) (by omega)]; simp
   have next:=ih aL x (pre++[prev]) (by omega) (by omega) (by simpa using hl)
   rw [show (pre++[prev])++x::aL=pre++prev::x::aL by simp] at next
   have nine:=Pd fuel n out_hi l t8 fuel aL x (pre++prev::x::aL) (pre.length+1) (pre.length+1) 1 (by omega) hl (by omega) (by omega) (by
    rw [show pre.length+1+1-1=(pre++[prev]).length by simp,show pre++prev::x::aL=(pre++[prev])++x::aL by simp,List.drop_left])
   rw [mp,e1,e2,next]
   simp only [Int.toNat_natCast,g1,g2]
   rw [dt (p:=((pre.length+1:Nat):Int)<_) (by omega),dt (p:=(0:Int)≤((pre.length+1:Nat):Int)) (by omega),dt (p:=(0:Int)≤(pre.length:Int)) (by omega),dt (p:=(pre.length:Int)<_) (by omega),
    dt (p:=((pre.length+1:Nat):Int)≤_) (by omega),BA,show (1:Int)=((1:Nat):Int) from rfl,nine]
   simp only [cond_true,Bool.and_self,dd]
   by_cases h0:bt x prev=0
   ·rw [dt h0]
    simp only [cond_true,h0,if_true]
    rw [show pre++prev::x::aL=(pre++[prev])++x::aL by simp,show pre.length+1=(pre++[prev]).length by simp,List.take_left]; simp
   ·rw [df h0]; simp [h0]
theorem HL (fuel:Nat) (l:List Alt) (hf:l.length<fuel) (hl:l.length≤1048576) : ∀ (n:Nat) (r p:List Alt),r.length<n→l=p++r →
  o9 fuel n l (p.map (fun a:Alt=>a.2.1)).length (p.length:Int) (p.map (fun a:Alt=>a.2.1))=some (.val (.slice ap) (b6 l)):=by
 intro n
 induction n with
 | zero=>intro r p h; omega
 | succ n ih =>
  intro r p h hp
  have hpl:p.length+r.length=l.length:=by rw [hp]; simp
  cases r with
  | nil =>
   have hp:l=p:=by simpa using hp
   subst hp
   have hv:b6 l=(l.map (fun a:Alt=>a.2.1)).foldl (pP bt) []:=by rw [List.foldl_map]; rfl
   have hlim:decide ((l.map (fun a:Alt=>a.2.1)).length≤LIM)=true:=dt (by simp only [List.length_map]; unfold LIM; omega)
   have hall:(l.map (fun a:Alt=>a.2.1)).all af6=true:=by simp [af6]
   rw [tS,df (p:=(l.length:Int)<_) (by omega),hlim,hall,hv,Wx ld hX]
   have hlen:=(hU bt (l.map (fun a:Alt=>a.2.1))).length_eq
   simp only [cond_false,cond_true,Bool.and_self,List.take_zero,List.nil_append,List.take_length,List.drop_zero,List.drop_length,List.append_nil]
   cases e:dv bt (l.map (fun a:Alt=>a.2.1)) with
   | nil =>
    rw [e] at hlen
    rw [dt (by rw [← hlen]; decide)]; simp
   | cons y s =>
    rw [e] at hlen
    cases s with
    | nil=>rw [dt (by rw [← hlen]; simp), ← hlen]; rfl
    | cons z s =>
     rw [df (by rw [← hlen]; simp; omega)]
     have hsl:(y::z::s).length=l.length:=by rw [hlen]; simp
     have:=Pe fuel (l.map (fun a:Alt=>a.2.1)).length l (l.length:Int) fuel (z::s) y [] (by simp at hsl ⊢; omega) (by simp at hsl ⊢; omega) (by simp at hsl ⊢; omega)
     rw [List.nil_append,hlen] at this
     rw [cond_false]; exact this
  | cons c r =>
   have next:=ih r (p++[c]) (by simp at h; omega) (by simp [hp])
   rw [hp] at next ⊢
   rw [← fK p c (by simp at hpl; omega)] at next
   rw [tS,bQ,dE,hZ,dt (by simp only [List.length_map,List.length_cons,List.length_nil] at *; unfold LIM; omega),List.take_length]
   simp only [cond_true,Bool.and_self]
   rw [← next]; simp
theorem EU (l:List Alt) (h:md l=true) : ∃ fuel,qu fuel l=some (.val (.slice ap) (b6 l)) :=
 ⟨l.length+1,by rw [Pf]; exact HL (l.length+1) l (by omega) (of_decide_eq_true h) (l.length+1) l [] (by omega) rfl⟩
end Go.Proofs.YtboikinjlmjgjaaGreat.Abs
namespace Go.Proofs.YtboikinjlmjgjaaGreat.Abs
open Go
theorem PA {α:Type} (l:List α):l=[] ∨ ∃ q y,l=q++[y]:=by
 rcases List.eq_nil_or_concat l with h | ⟨q,y,h⟩
 ·exact .inl h
 ·exact .inr ⟨q,y,by simpa using h⟩
theorem adR {α:Type} (q r:List α) (y z:α):(q++[y]++r).getD q.length z=y:=by simp
theorem Ff (fuel n3:Nat) (l:List Alt) (i:Int) (v:Val) (hv:(ix aK l i).2.1=v) (hi:decide (0≤i)=true) (hi':decide (i<(l.length:Int))=true) : ∀ (n:Nat) (p r:List Val),p.length<n→(p++r).length<4294967296→(∀ y∈r,bt y v>0) →
  oO fuel n3 n l i (p++r).length (p.length:Int) (p++r)=rn fuel n3 l (pP bt (p++r) v).length (w64 (i+1)) (pP bt (p++r) v):=by
 intro n
 induction n with
 | zero=>intro p r h; omega
 | succ n ih =>
  intro p r h hl hr
  rcases PA p with rfl | ⟨q,y,rfl⟩
  ·rw [List.nil_append] at hl ⊢
   rw [Ae,hv,hi,hi',df (p:=(([]:List Val).length:Int)>0) (by simp),dt (p:=(0:Int)≤(([]:List Val).length:Int)) (by simp),dt (p:=(([]:List Val).length:Int)≤_) (by simp)]
   rw [dt (p:=([]:List Val).length+_≤LIM) (by simp only [List.length_nil,List.length_drop,List.length_take]; unfold LIM; omega),dt (p:=Int.toNat (([]:List Val).length:Int)+([v]:List Val).length≤LIM) (by unfold LIM; simp),
    dt (p:=Int.toNat (([]:List Val).length:Int)+([v]:List Val).length+_≤LIM) (by simp only [List.length_nil,List.length_drop,List.length_take,List.length_append,List.length_cons]; unfold LIM; simp; omega),rp,Nv hr]
   simp [TI]; congr 1; omega
  ·have hqy:(q++[y]).length=q.length+1:=by simp
   have hlen:(q++[y]++r).length=q.length+1+r.length:=by rw [List.length_append,hqy]
   have hl':q.length+1+r.length<4294967296:=by omega
   have e1:w64 (((q++[y]).length:Int)-1)=(q.length:Int):=by rw [gY (by omega) (by omega)]; omega
   have next:=ih q (y::r)
   rw [Ae,hv,hi,hi',e1,Int.toNat_natCast,adR,BA]
   rw [dt (p:=((q++[y]).length:Int)>0) (by omega),dt (p:=(0:Int)≤(q.length:Int)) (by omega),dt (p:=(q.length:Int)<_) (by omega)]
   simp only [TI,Bool.and_self,Bool.not_true,Bool.or_true,cond_true]
   by_cases h1:bt y v>0
   ·rw [dt h1,cond_true]
    have:=next (by simp at h; omega) (by simp; omega) (fun z hz=>by
     rcases List.mem_cons.1 hz with rfl | hz
     ·exact h1
     ·exact hr z hz)
    rw [ma] at this
    exact this
   ·rw [df h1,cond_false]
    by_cases h2:bt y v=0
    ·rw [dt h2,cond_true,rp,GE hr h2]
    ·rw [df h2,cond_false,Nx hr (by omega),rp]
     rw [dt (p:=(0:Int)≤((q++[y]).length:Int)) (by omega),dt (p:=((q++[y]).length:Int)≤_) (by omega),Int.toNat_natCast]
     rw [dt (p:=([]:List Val).length+_≤LIM) (by simp only [List.length_nil,List.length_drop,List.length_take]; unfold LIM; omega),dt (p:=(q++[y]).length+([v]:List Val).length≤LIM) (by simp; unfold LIM; omega),
      dt (p:=(q++[y]).length+([v]:List Val).length+_≤LIM) (by simp only [List.length_nil,List.length_drop,List.length_take,List.length_append,List.length_cons]; unfold LIM; omega)]
     simp only [cond_true,Bool.and_self,List.take_length,List.drop_left,List.take_left,List.nil_append]
     rw [show (q++[y]).length+([v]:List Val).length=((q++[y])++[v]).length by simp,List.take_length]
     simp only [List.append_assoc,List.cons_append,List.nil_append,List.length_append,List.length_cons,List.length_nil]
     rw [show q.length+(0+1+(0+1))+r.length=q.length+(r.length+1+1) by omega]
theorem Rr (fuel:Nat) (l:List Alt) (hf:l.length<fuel) (hl:l.length≤1048576) : ∀ (n:Nat) (r p:List Alt),r.length<n→l=p++r →
  rn fuel n l (b6 p).length (p.length:Int) (b6 p)=some (.val (.slice ap) (b6 l)):=by
 intro n
 induction n with
 | zero=>intro r p h; omega
 | succ n ih =>
  intro r p h hp
  have hpl:p.length+r.length=l.length:=by rw [hp]; simp
  cases r with
  | nil =>
   have hp:l=p:=by simpa using hp
   subst hp
   rw [Af,df (p:=(l.length:Int)<_) (by omega)]
   simp
  | cons c r =>
   simp only [List.length_cons] at hpl h
   have next:=ih r (p++[c]) (by omega) (by simp [hp])
   have hlen:(b6 p).length≤p.length:=by
    have:=(tq ld hX (p.map (fun a:Alt=>a.2.1)) [] List.Pairwise.nil).2.2
    rw [List.foldl_map] at this; simpa [b6] using this
   have six:=Ff fuel n l (p.length:Int) c.2.1 (by rw [hp,bQ]) (hZ p) (by rw [hp,dE]) fuel (b6 p) [] (by omega) (by simp; omega) (fun _ h=>by cases h)
   rw [List.append_nil] at six
   rw [Af,dt (p:=(p.length:Int)<_) (by omega),cond_true,six, ← next,fK p c (by omega)]
   have:b6 (p++[c])=pP bt (b6 p) c.2.1:=by simp [b6]
   rw [this]
theorem NW (l:List Alt) (h:md l=true) : ∃ fuel,yL fuel l=some (.val (.slice ap) (b6 l)) :=
 ⟨l.length+1,by rw [aa8]; exact Rr (l.length+1) l (by omega) (of_decide_eq_true h) (l.length+1) l [] (by omega) rfl⟩
end Go.Proofs.YtboikinjlmjgjaaGreat.Abs
