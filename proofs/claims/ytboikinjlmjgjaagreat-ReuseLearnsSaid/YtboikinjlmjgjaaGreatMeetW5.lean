/- Layer 27: the reference's regions; the statements. -/
import Derived.Test.YtboikinjlmjgjaaGreatGenW
import Derived.Test.YtboikinjlmjgjaaGreatSort
namespace Go.Proofs.YtboikinjlmjgjaaGreat.Abs
open Go
theorem gY {n:Int} (h0 : -9223372036854775808≤n) (h1:n<9223372036854775808):w64 n=n:=by
 unfold w64; simp [IntKind.wrap,IntKind.bits,IntKind.signed]; omega
theorem acR {n:Nat} (h:n<9223372036854775808):w64 (n:Int)=n:=gY (by omega) (by omega)
theorem bQ {t:Ty} (p:List t.den) (c:t.den) (r:List t.den):ix t (p++c::r) (p.length:Int)=c:=by
 simp [ix]
theorem dE {t:Ty} (p:List t.den) (c:t.den) (r:List t.den):decide ((p.length:Int)<((p++c::r).length:Int))=true:=by
 simp; omega
theorem ib {t:Ty} (p:List t.den):decide ((p.length:Int)<((p++[]).length:Int))=false:=by simp
theorem hZ {t:Ty} (p:List t.den):decide (0≤(p.length:Int))=true:=by simp
theorem fK {t:Ty} (p:List t.den) (c:t.den) (h:p.length<9223372036854775807):w64 ((p.length:Int)+1)=((p++[c]).length:Int):=by
 rw [gY (by omega) (by omega)]; simp
theorem ma {t:Ty} (p:List t.den) (c:t.den) (r:List t.den):p++c::r=(p++[c])++r:=by simp
theorem TI (a b:Bool):aC a b=(!a||b):=by cases a <;> cases b <;> rfl
theorem dt {p:Prop} [Decidable p] (h:p):decide p=true:=decide_eq_true h
theorem df {p:Prop} [Decidable p] (h : ¬ p):decide p=false:=decide_eq_false h
theorem V9 (x:Int):no x=false:=by simp [no]
theorem rI (x y:Int):gf x y=lz x y:=by
 simp only [gf,V9,cond_false,lz]
 by_cases h:x<y <;> by_cases h':y<x <;> simp [h,h']
theorem YA (fuel:Nat) : ∀ (n:Nat) (r p:List Int),r.length<n→(p++r).length≤4294967296 →
  Ix fuel n (p++r) (p.length:Int)=some (.val aa (orF r)):=by
 intro n
 induction n with
 | zero=>intro r p h; omega
 | succ n ih =>
  intro r p h hl
  cases r with
  | nil=>rw [Gi,ib (t:=aa)]; rfl
  | cons c r =>
   have hl':p.length+(r.length+1)≤4294967296:=by simpa using hl
   have next:=ih r (p++[c]) (by simp at h; omega) (by simp; omega)
   rw [← ma (t:=aa), ← fK (t:=aa) p c (by omega)] at next
   rw [Gi,bQ (t:=aa),dE (t:=aa),hZ (t:=aa),next]
   simp only [cond_true,Bool.and_self,orF,List.find?_cons]
   by_cases h0:c=0 <;> simp [h0]
theorem Vu (l:List Int) (h:QC l=true) : ∃ fuel,Iw fuel l=some (.val aa (orF l)) :=
 ⟨l.length+1,by rw [aha]; exact YA _ (l.length+1) l [] (by omega) (of_decide_eq_true h)⟩
theorem Vv (a b c:Int):orF [a,b,c]=bM a (bM b c):=by
 simp only [orF,bM,List.find?_cons,List.find?_nil]
 by_cases h1:a=0 <;> by_cases h2:b=0 <;> by_cases h3:c=0 <;> simp [h1,h2,h3]
theorem Hk (i f i2 f2:Int):jC i f i2 f2=ahd i f i2 f2:=by
 unfold jC ahd
 by_cases h1:i<i2 <;> by_cases h2:i=i2 <;> by_cases h3:f<f2 <;> simp [h1,h2,h3]
theorem OD (x y:Stg) : ∃ fuel,zb fuel x y=some (.val aa (jB x y)) :=
 ⟨0,by
  rw [abX,Vv,rI,rI,rI]
  rfl⟩
theorem Ep : ∀ (t:Ty) (x:t.den),t.flatEq=true→eqD t x x=true
 | .int _,x,_=>by simp [eqD]
 | .bool,x,_=>by simp [eqD]
 | .str,x,_=>by simp [eqD]
 | .unit,_,_=>rfl
 | .cons a b,x,h=>by
  simp only [Ty.flatEq,Bool.and_eq_true] at h
  simp [eqD,Ep a x.1 h.1.1,Ep b x.2 h.1.2]
 | .slice _,_,h=>by simp [Ty.flatEq] at h
 | .tree,_,h=>by simp [Ty.flatEq] at h
end Go.Proofs.YtboikinjlmjgjaaGreat.Abs
namespace Go.Proofs.YtboikinjlmjgjaaGreat.Abs
open Go
theorem TD {t:Ty} (c:t.den) (r:List t.den):ix t (c::r) 0=c:=rfl
theorem C6 (x:Slt) (r:List Slt):(bJ (x::r,())).1=(bif !eqD ap (p5 x) zv then [(x.1,x.2.1,p5 x,())] else [])++(bJ (r,())).1:=by
 simp only [bJ,List.filter_cons]
 cases eqD ap (p5 x) zv <;> simp
theorem M9 (fuel:Nat) (b0 b5:List Slt) (b1:List Cel) (u:Unit) : ∀ (n:Nat) (r p:List Slt) (acc:List Cel),r.length<n→(p++r).length≤1048576→(∀ x∈r,x.2.2.1≠[])→acc.length≤p.length →
  cQ fuel n (p++r,u) (p.length:Int) b0 b1 acc b5=some (.val aM (acc++(bJ (r,())).1,())):=by
 intro n
 induction n with
 | zero=>intro r p acc h; omega
 | succ n ih =>
  intro r p acc h hl hne ha
  cases r with
  | nil=>rw [ot]; dsimp only; rw [ib (t:=ak)]; simp [bJ]
  | cons c r =>
   obtain ⟨ci,cf,al,cu⟩:=c
   cases al with
   | nil=>exact absurd rfl (hne _ (List.mem_cons_self ..))
   | cons a al =>
    have hl':p.length+(r.length+1)≤1048576:=by simpa using hl
    have next:=fun acc' (h':acc'.length≤p.length+1)=>ih r (p++[(ci,cf,a::al,cu)]) acc' (by simp at h; omega) (by simp; omega) (fun x hx=>hne x (List.mem_cons_of_mem _ hx)) (by simpa using h')
    rw [← ma (t:=ak), ← fK (t:=ak) p (ci,cf,a::al,cu) (by omega)] at next
    rw [ot]
    dsimp only
    rw [bQ (t:=ak),dE (t:=ak),hZ (t:=ak),next _ (by simp; omega),next _ (by omega)]
    dsimp only
    rw [TD (t:=aK),C6]
    have hlim:acc.length+1≤LIM:=by simp [LIM]; omega
    have hp:decide (((a::al).length:Int)>0)=true:=dt (by simp)
    rw [hp]
    simp only [cond_true,Bool.and_self,Bool.and_true,p5,zv,nM]
    cases eqD ap a.2.1 (0,false,[],0,()) <;> simp [hlim]
theorem sx {s:Sta} (h:stG s=true):s.1.length≤1048576 ∧ ∀ x∈s.1,x.2.2.1≠[]∧x.2.2.1.length≤1048576:=by
 simp only [stG,Bool.and_eq_true,decide_eq_true_eq,List.all_eq_true] at h
 refine ⟨h.1,fun x hx => ?_⟩
 have:=h.2 x hx
 simp only [Bool.not_eq_true',md,decide_eq_true_eq] at this
 exact ⟨fun e=>by rw [e] at this; simp at this,this.2⟩
theorem IK (s:Sta) (h:stG s=true) : ∃ fuel,uK fuel s=some (.val aM (bJ s)):=by
 obtain ⟨h1,h2⟩:=sx h
 obtain ⟨l,u⟩:=s
 refine ⟨l.length+1, ?_⟩
 rw [VM]
 exact M9 _ _ _ _ u (l.length+1) l [] [] (by omega) h1 (fun x hx=>(h2 x hx).1) (by simp)
theorem M7 (fuel:Nat) (u:Unit) : ∀ (n:Nat) (r p:List Slt) (acc:List Cel),r.length<n→(p++r).length≤1048576→(∀ x∈r,x.2.2.1≠[])→acc.length≤p.length →
  sT fuel n (p++r,u) (p.length:Int) acc=some (.val aM (acc++(bJ (r,())).1,())):=by
 intro n
 induction n with
 | zero=>intro r p acc h; omega
 | succ n ih =>
  intro r p acc h hl hne ha
  cases r with
  | nil=>rw [wB]; dsimp only; rw [ib (t:=ak)]; simp [bJ]
  | cons c r =>
   obtain ⟨ci,cf,al,cu⟩:=c
   cases al with
   | nil=>exact absurd rfl (hne _ (List.mem_cons_self ..))
   | cons a al =>
    have hl':p.length+(r.length+1)≤1048576:=by simpa using hl
    have next:=fun acc' (h':acc'.length≤p.length+1)=>ih r (p++[(ci,cf,a::al,cu)]) acc' (by simp at h; omega) (by simp; omega) (fun x hx=>hne x (List.mem_cons_of_mem _ hx)) (by simpa using h')
    rw [← ma (t:=ak), ← fK (t:=ak) p (ci,cf,a::al,cu) (by omega)] at next
    rw [wB]
    dsimp only
    rw [bQ (t:=ak),dE (t:=ak),hZ (t:=ak),wC,wC,next _ (by simp; omega),next _ (by omega)]
    dsimp only
    rw [TD (t:=aK),C6]
    have hlim:acc.length+1≤LIM:=by simp [LIM]; omega
    have hq:decide ((0:Int)<((a::al).length:Int))=true:=dt (by simp)
    rw [hq]
    simp only [cond_true,Bool.and_self,Bool.and_true,p5,zv]
    cases eqD ap a.2.1 (0,false,[],0,()) <;> simp [hlim]
theorem IJ (s:Sta) (h:stG s=true) : ∃ fuel,uJ fuel s=some (.val aM (bJ s)):=by
 obtain ⟨h1,h2⟩:=sx h
 obtain ⟨l,u⟩:=s
 refine ⟨l.length+1, ?_⟩
 rw [VJ]
 exact M7 _ u (l.length+1) l [] [] (by omega) h1 (fun x hx=>(h2 x hx).1) (by simp)
theorem adP {m:Mdl} (h:Qx m=true):m.1.length≤1048576:=of_decide_eq_true h
theorem KA (fuel:Nat) (a:Alt) : ∀ (n:Nat) (r p:List Alt),r.length<n→(p++r).length≤1048576→(p++r).head? = some a →
  p9 fuel n (p++r) (p.length:Int)=some (.val .bool (r.any (fun b => !eqD ap b.2.1 a.2.1))):=by
 intro n
 induction n with
 | zero=>intro r p h; omega
 | succ n ih =>
  intro r p h hl hh
  cases r with
  | nil=>rw [nv,ib (t:=aK)]; rfl
  | cons c r =>
   have hl':p.length+(r.length+1)≤1048576:=by simpa using hl
   have next:=ih r (p++[c]) (by simp at h; omega) (by simp; omega) (by simpa using hh)
   rw [← ma (t:=aK), ← fK (t:=aK) p c (by omega)] at next
   have h0:ix aK (p++c::r) 0=a:=by
    cases hp:p++c::r with
    | nil=>simp at hp
    | cons x y=>rw [hp] at hh; simp at hh; subst hh; rfl
   have hq:decide ((0:Int)<((p++c::r).length:Int))=true:=dt (by simp; omega)
   rw [nv,bQ (t:=aK),dE (t:=aK),hZ (t:=aK),next,h0,hq]
   simp only [cond_true,Bool.and_self,List.any_cons]
   cases eqD ap c.2.1 a.2.1 <;> simp
theorem Fr (l:List Alt) (h:md l=true) : ∃ fuel,rF fuel l=some (.val .bool (eh l)):=by
 have h:l.length≤1048576:=of_decide_eq_true h
 refine ⟨l.length+1, ?_⟩
 rw [Sw]
 cases l with
 | nil=>rw [nv]; rfl
 | cons a l =>
  have:=KA ((a::l).length+1) a ((a::l).length+1) (a::l) [] (by omega) h rfl
  rw [show (([]:List Alt).length:Int)=0 from rfl,List.nil_append] at this
  rw [this]
  simp only [eh,List.any_cons,Ep ap a.2.1 rfl,Bool.not_true,Bool.false_or]
theorem KQ (l:List Alt) (h:u9 l=true) : ∃ fuel,vc fuel l=some (.val (.slice aK) (idA l)):=by
 simp only [u9,Bool.and_eq_true,md,decide_eq_true_eq] at h
 refine ⟨0, ?_⟩
 rw [W1,h.1]
 have:l.length≤LIM:=by have:=h.2; simp [LIM]; omega
 simp [this,idA]
end Go.Proofs.YtboikinjlmjgjaaGreat.Abs
namespace Go.Proofs.YtboikinjlmjgjaaGreat.Abs
open Go
theorem nc {i f j g:Int}:ahd i f j g=true↔i<j∨(i=j∧f<g):=by simp [ahd]
theorem ajO {i f j g:Int}:ahd i f j g=false ↔ ¬ (i<j∨(i=j∧f<g)):=by rw [← nc]; simp
theorem tO {i f j g k h:Int} (h1:ahd i f j g=true) (h2:ahd j g k h=true):ahd i f k h=true:=by
 rw [nc] at *; omega
theorem agb {i f j g:Int} (h:ahd i f j g=false) (hne : ¬ (i=j∧f=g)):ahd j g i f=true:=by
 rw [ajO] at h
 rw [nc]
 omega
theorem Yw {L:List Slt} (hp:L.Pairwise jy) (id field:Int) : ∀ m,m<L.length→ahd (L.getD m (zero ak)).1 (L.getD m (zero ak)).2.1 id field=decide (m<(L.takeWhile (fun x=>ahd x.1 x.2.1 id field)).length):=by
 induction L with
 | nil=>intro m hm; simp at hm
 | cons x L ih =>
  obtain ⟨h1,h2⟩:=List.pairwise_cons.1 hp
  intro m hm
  rw [List.takeWhile_cons]
  cases hx:ahd x.1 x.2.1 id field with
  | true =>
   cases m with
   | zero=>simp [List.getD,hx]
   | succ m =>
    have:=ih h2 m (by simpa using hm)
    simpa [List.getD] using this
  | false =>
   cases m with
   | zero=>simp [List.getD,hx]
   | succ m =>
    have hm':m<L.length:=by simpa using hm
    have hmem:L.getD m (zero ak)∈L:=by
     simp only [List.getD,List.getElem?_eq_getElem hm',Option.getD_some]
     exact List.getElem_mem hm'
    have hlt:=h1 _ hmem
    have e:(x::L).getD (m+1) (zero ak)=L.getD m (zero ak):=by simp [List.getD]
    rw [e]
    cases hy:ahd (L.getD m (zero ak)).1 (L.getD m (zero ak)).2.1 id field with
    | false=>simp
    | true =>
     have:=tO hlt hy
     rw [hx] at this
     cases this
theorem Qd (fuel:Nat) (id field:Int) (L:List Slt) (u:Unit) (hl:L.length≤1048576) (hp:L.Pairwise jy) : ∀ (n lo hi:Nat),hi-lo<n→lo≤(L.takeWhile (fun x=>ahd x.1 x.2.1 id field)).length→(L.takeWhile (fun x=>ahd x.1 x.2.1 id field)).length≤hi→hi≤L.length →
  fX fuel n id field (L,u) (lo:Int) (hi:Int)=some (.val aa ((L.takeWhile (fun x=>ahd x.1 x.2.1 id field)).length:Int)):=by
 intro n
 induction n with
 | zero=>intro lo hi h; omega
 | succ n ih =>
  intro lo hi h h1 h2 h3
  rw [Iq]
  dsimp only
  by_cases hlt:lo<hi
  ·have e1:w64 ((lo:Int)+(hi:Int))=((lo+hi:Nat):Int):=by rw [gY (by omega) (by omega)]; simp
   have e2:Int.tdiv ((lo+hi:Nat):Int) 2=(((lo+hi) / 2:Nat):Int):=rfl
   have e3:w64 (((lo+hi) / 2:Nat):Int)=(((lo+hi) / 2:Nat):Int):=acR (by omega)
   rw [e1,e2,e3]
   generalize hm:(lo+hi) / 2=m
   have hm1:lo≤m:=by omega
   have hm2:m<hi:=by omega
   have e4:w64 ((m:Int)+1)=((m+1:Nat):Int):=by rw [gY (by omega) (by omega)]; simp
   have e5:ix ak L (m:Int)=L.getD m (zero ak):=by simp [ix]
   rw [e4,e5,Hk,Yw hp id field m (by omega)]
   have c1:decide ((lo:Int)<(hi:Int))=true:=dt (by omega)
   have c2:decide ((0:Int)≤(m:Int))=true:=dt (by omega)
   have c3:decide ((m:Int)<(L.length:Int))=true:=dt (by omega)
   rw [c1,c2,c3]
   simp only [Bool.and_self,cond_true]
   by_cases hk:m<(L.takeWhile (fun x=>ahd x.1 x.2.1 id field)).length
   ·rw [dt hk,cond_true]
    exact ih (m+1) hi (by omega) (by omega) h2 h3
   ·rw [df hk,cond_false]
    exact ih lo m (by omega) h1 (by omega) (by omega)
  ·have c1:decide ((lo:Int)<(hi:Int))=false:=df (by omega)
   have e:(L.takeWhile (fun x=>ahd x.1 x.2.1 id field)).length=lo:=by omega
   rw [c1,cond_false,e]
theorem wo {s:Sta} {id field:Int} (h:cK s id field=true):s.1.length≤1048576∧s.1.Pairwise jy:=by
 simpa [cK,af3] using h
theorem Ip (s:Sta) (id field:Int) (h:cK s id field=true) : ∃ fuel,uG fuel s id field=some (.val aa (aq s id field)):=by
 obtain ⟨h1,h2⟩:=wo h
 obtain ⟨l,u⟩:=s
 refine ⟨l.length+1, ?_⟩
 rw [Vr]
 exact Qd _ id field l u h1 h2 (l.length+1) 0 l.length (by omega) (Nat.zero_le _) (List.takeWhile_sublist _).length_le (Nat.le_refl _)
theorem AR (s:Sta) (id field:Int):s.1=cn s id field++l7 s id field:=(List.takeWhile_append_dropWhile).symm
theorem OT (s:Sta) (id field:Int) (h:cK s id field=true) : ∃ fuel,tM fuel s id field=some (.val (.slice aK) (gQ s id field)):=by
 refine ⟨0, ?_⟩
 rw [acn,h]
 have hs:=AR s id field
 unfold gQ aq
 generalize cn s id field=p at *
 cases hq:l7 s id field with
 | nil =>
  rw [hq] at hs
  rw [hs]
  have c:decide ((p.length:Int)<((p++[]).length:Int))=false:=df (by simp)
  rw [c]
  simp [uY]
 | cons x r =>
  rw [hq] at hs
  rw [hs,bQ (t:=ak),dE (t:=ak),hZ (t:=ak)]
  simp only [cond_true,Bool.and_self,bu]
  by_cases h1:x.1=id <;> by_cases h2:x.2.1=field <;> simp [h1,h2]
theorem abN {t:Ty} (p:List t.den) (c:t.den) (r:List t.den):List.drop (p.length+1) (p++c::r)=r:=by
 rw [← List.drop_drop]; simp
theorem PJ (s:Sta) (id field:Int) (l:List Alt) (h:ac8 s id field l=true) : ∃ fuel,Ci fuel s id field l=some (.val au (nl s id field l)):=by
 refine ⟨0, ?_⟩
 have hG:cK s id field=true:=h
 obtain ⟨h1,_⟩:=wo hG
 have hs:=AR s id field
 unfold nl
 have j7 : ∀ (out:List Slt) (k:Nat),out.length≤2097152→k≤s.1.length→sC 0 out s (k:Int)=some (.val au (out++s.1.drop k,())):=by
  intro out k ho hk
  rw [PK]
  have c1:decide ((0:Int)≤(k:Int))=true:=dt (by omega)
  have c2:decide ((k:Int)≤(s.1.length:Int))=true:=dt (by omega)
  have c3:decide (out.length+((List.take s.1.length s.1).drop (Int.toNat (k:Int))).length≤LIM)=true:=dt (by simp [LIM]; omega)
  rw [c1,c2,c3]
  simp
 have j5 : ∀ out:List Slt,out.length≤2097152→vQ 0 id field s out=some (.val au (out++WR id field (l7 s id field),())):=by
  intro out ho
  have hk:(cn s id field).length≤s.1.length:=by rw [hs]; simp
  rw [PL]
  unfold aq
  cases hq:l7 s id field with
  | nil =>
   rw [hq] at hs
   have c:decide (((cn s id field).length:Int)<(s.1.length:Int))=false:=df (by rw [hs]; simp)
   rw [c,j7 out _ ho hk]
   have hd:s.1.drop (cn s id field).length=[]:=by rw [hs]; simp
   rw [hd]
   simp [uY,WR]
  | cons x r =>
   rw [hq] at hs
   have hk1:(cn s id field).length+1≤s.1.length:=by rw [hs]; simp
   have e1:ix ak s.1 ((cn s id field).length:Int)=x:=by rw [hs]; exact bQ (t:=ak) _ _ _
   have c1:decide (((cn s id field).length:Int)<(s.1.length:Int))=true:=dt (by omega)
   have c2:decide ((0:Int)≤((cn s id field).length:Int))=true:=dt (by omega)
   have e2:w64 (((cn s id field).length:Int)+1)=(((cn s id field).length+1:Nat):Int):=by rw [gY (by omega) (by omega)]; simp
   have d1:s.1.drop (cn s id field).length=x::r:=by rw [hs]; simp
   have d2:s.1.drop ((cn s id field).length+1)=r:=by rw [hs]; exact abN (t:=ak) _ _ _
   rw [e1,c1,c2,e2,j7 out _ ho hk,j7 out _ ho hk1,d1,d2]
   simp only [cond_true,Bool.and_self,bu]
   by_cases g1:x.1=id <;> by_cases g2:x.2.1=field <;> simp [g1,g2,WR]
 rw [ac5,hG]
 unfold aq
 have hk:(cn s id field).length≤s.1.length:=by rw [hs]; simp
 have ht:(List.take (Int.toNat ((cn s id field).length:Int)) s.1).drop 0=cn s id field:=by
  simp only [Int.toNat_natCast,List.drop_zero]
  rw [hs]; simp
 have c1:decide ((0:Int)≤((cn s id field).length:Int))=true:=dt (by omega)
 have c2:decide (((cn s id field).length:Int)≤(s.1.length:Int))=true:=dt (by omega)
 have c3:decide (([]:List Slt).length+(cn s id field).length≤LIM)=true:=dt (by simp [LIM]; omega)
 have c4:decide ((([]:List Slt)++cn s id field).length+([(id,field,l,())]:List Slt).length≤LIM)=true:=dt (by simp [LIM]; omega)
 rw [ht,c1,c2,c3,c4,j5 _ (by simp; omega),j5 _ (by simp; omega)]
 cases l with
 | nil=>simp
 | cons a l =>
  have c5:decide (((a::l).length:Int)>0)=true:=dt (by simp)
  rw [c5]
  simp
theorem tW {α:Type} (p:α→Bool) : ∀ (l:List α),∀ x∈l.takeWhile p,p x=true
 | [],x,h=>by simp at h
 | y::l,x,h=>by
  rw [List.takeWhile_cons] at h
  split at h
  ·rename_i hy
   rcases List.mem_cons.1 h with rfl | h
   ·exact hy
   ·exact tW p l x h
  ·simp at h
theorem rE {α:Type} (p:α→Bool) : ∀ (l:List α) (x:α) (r:List α),l.dropWhile p=x::r→p x=false
 | [],x,r,h=>by simp at h
 | y::l,x,r,h=>by
  rw [List.dropWhile_cons] at h
  split at h
  ·exact rE p l x r h
  ·rename_i hy
   injection h with h1 h2
   subst h1
   simpa using hy
end Go.Proofs.YtboikinjlmjgjaaGreat.Abs
namespace Go.Proofs.YtboikinjlmjgjaaGreat.Abs
open Go
def c3 (a1 a2 a3 b1 b2 b3:Int):Int:=bM (lz a1 b1) (bM (lz a2 b2) (lz a3 b3))
theorem OK (a1 a2 a3 b1 b2 b3:Int):c3 a1 a2 a3 b1 b2 b3≤0↔a1<b1∨(a1=b1∧(a2<b2∨(a2=b2∧a3≤b3))):=by
 unfold c3 bM lz
 repeat' split
 all_goals omega
theorem alH (a1 a2 a3 b1 b2 b3:Int):c3 a1 a2 a3 b1 b2 b3<0↔a1<b1∨(a1=b1∧(a2<b2∨(a2=b2∧a3<b3))):=by
 unfold c3 bM lz
 repeat' split
 all_goals omega
theorem ajH (a1 a2 a3 b1 b2 b3:Int):c3 a1 a2 a3 b1 b2 b3≤0∨c3 b1 b2 b3 a1 a2 a3≤0:=by rw [OK,OK]; omega
theorem acg {a1 a2 a3 b1 b2 b3 d1 d2 d3:Int} (h:c3 a1 a2 a3 b1 b2 b3≤0) (g:c3 b1 b2 b3 d1 d2 d3≤0):c3 a1 a2 a3 d1 d2 d3≤0:=by rw [OK] at *; omega
theorem afY {a1 a2 a3 b1 b2 b3:Int} (h:c3 a1 a2 a3 b1 b2 b3≤0) (g:c3 b1 b2 b3 a1 a2 a3≤0):a1=b1∧a2=b2∧a3=b3:=by rw [OK] at *; omega
theorem ajI (a1 a2 a3 b1 b2 b3:Int):c3 a1 a2 a3 b1 b2 b3<0 ↔ ¬ c3 b1 b2 b3 a1 a2 a3≤0:=by rw [OK,alH]; omega
theorem OC:TotalCmp jB :=
 ⟨fun a b=>ajH _ _ _ _ _ _,fun a b c h g=>acg h g,fun a b h g=>by
  obtain ⟨⟨a1,a2,u⟩,a3,u'⟩:=a
  obtain ⟨⟨b1,b2,w⟩,b3,w'⟩:=b
  obtain ⟨e1,e2,e3⟩:=afY h g
  simp only at e1 e2 e3
  rw [e1,e2,e3],fun a b=>ajI _ _ _ _ _ _⟩
theorem Ps (c:Cel) (r:List Cel):uz (c::r,())=(bif yG c then [XT c] else [])++uz (r,()):=by
 simp only [uz,List.filter_cons]
 cases yG c <;> simp
theorem Wk (c:Cel):(bif (bif (bif (decide (c.2.1=2)) then (!decide (c.2.2.1.2.2.2.1=0)) else false) then (decide (c.2.2.1.1≥1)) else false) then (decide (c.2.2.1.1≤3)) else false)=yG c:=by
 unfold yG
 cases decide (c.2.1=2) <;> cases decide (c.2.2.1.2.2.2.1=0) <;> cases decide (c.2.2.1.1≥1) <;> rfl
theorem LX (fuel:Nat) (u:Unit) : ∀ (n:Nat) (r p:List Cel) (acc:List Stg),r.length<n→(p++r).length≤1048576→acc.length≤p.length →
  nV fuel n (p++r,u) acc.length (p.length:Int) acc=some (.val (.slice av) (dv jB (acc++uz (r,())))):=by
 intro n
 induction n with
 | zero=>intro r p acc h; omega
 | succ n ih =>
  intro r p acc h hl ha
  cases r with
  | nil =>
   rw [vH]
   dsimp only
   rw [ib (t:=ac)]
   have h1:acc.length≤LIM:=by simp at hl; simp [LIM]; omega
   have h2:acc.all aco=true:=by simp [aco]
   have h3:(dv jB acc).length=acc.length:=(hU jB acc).length_eq
   rw [dt h1,h2]
   simp only [Bool.and_self,cond_true,cond_false,uz,List.filter_nil,List.map_nil,List.append_nil,List.take_zero,List.nil_append,List.take_length,List.drop_zero,List.drop_length]
   rw [← h3,List.take_length]
  | cons c r =>
   have hl':p.length+(r.length+1)≤1048576:=by simpa using hl
   have next:=fun acc' (h':acc'.length≤p.length+1)=>ih r (p++[c]) acc' (by simp at h; omega) (by simp; omega) (by simpa using h')
   rw [← ma (t:=ac), ← fK (t:=ac) p c (by omega)] at next
   rw [vH]
   dsimp only
   rw [bQ (t:=ac),dE (t:=ac),hZ (t:=ac),Wk,vI,vI]
   have hlim:acc.length+1≤LIM:=by simp [LIM]; omega
   have e1 : ∀ y:Stg,acc.length+([y]:List Stg).length=(acc++[y]).length:=fun y=>by simp
   have e2:List.take acc.length acc=acc:=List.take_length
   rw [e1,e2,next _ (by simp; omega),next _ (by omega),Ps]
   have hlim2:(acc++[XT c]).length≤LIM:=by simpa using hlim
   cases yG c with
   | false=>simp
   | true =>
    have:decide ((acc++[XT c]).length≤LIM)=true:=dt hlim2
    simp only [Bool.and_self,cond_true]
    rw [show ((c.2.2.1.2.2.2.1,c.2.2.1.1,()),c.1,())=XT c from rfl,this]
    simp
theorem HQ (m:Mdl) (h:Qx m=true) : ∃ fuel,uy fuel m=some (.val (.slice av) (g8 m)):=by
 have h:=adP h
 obtain ⟨l,u⟩:=m
 refine ⟨l.length+1, ?_⟩
 rw [U9]
 exact LX _ u (l.length+1) l [] [] (by omega) h (by simp)
theorem Lw (x:Slt) (r:List Slt):gt (x::r,())=(bif eh x.2.2.1 then [(1,x.1,x.2.1,x.2.2.1,[],())] else [])++gt (r,()):=by
 simp only [gt,List.filter_cons]
 cases eh x.2.2.1 <;> simp
theorem BV (s:Sta):(gt s).length≤s.1.length:=by
 simp only [gt,List.length_map]
 exact List.length_filter_le _ _
theorem Vk (fuel:Nat) (b0 b5:List Slt) (u:Unit) (hb:stG (b0,())=true) (hm:Qx (bJ (b0,()))=true) : ∀ (n:Nat) (r p:List Slt) (acc:List Reg),r.length<n→(p++r).length≤1048576→(∀ x∈r,x.2.2.1≠[]∧x.2.2.1.length≤1048576)→acc.length≤p.length →
  fV fuel n (p++r,u) (p.length:Int) b0 acc b5=pu fuel fuel (g8 (bJ (b0,()))) (acc++gt (r,())):=by
 intro n
 induction n with
 | zero=>intro r p acc h; omega
 | succ n ih =>
  intro r p acc h hl hne ha
  cases r with
  | nil=>rw [qM]; dsimp only; rw [ib (t:=ak),hb,hm]; simp [gt]
  | cons c r =>
   have hl':p.length+(r.length+1)≤1048576:=by simpa using hl
   have next:=fun acc' (h':acc'.length≤p.length+1)=>ih r (p++[c]) acc' (by simp at h; omega) (by simp; omega) (fun x hx=>hne x (List.mem_cons_of_mem _ hx)) (by simpa using h')
   rw [← ma (t:=ak), ← fK (t:=ak) p c (by omega)] at next
   obtain ⟨n1,n2⟩:=hne c (List.mem_cons_self ..)
   have g1:md c.2.2.1=true:=dt n2
   have g2:u9 c.2.2.1=true:=by
    simp only [u9,g1,Bool.and_true]
    cases hc:c.2.2.1 with
    | nil=>exact absurd hc n1
    | cons _ _=>rfl
   rw [qM]
   dsimp only
   rw [bQ (t:=ak),dE (t:=ak),hZ (t:=ak),g1,g2,next _ (by simp; omega),next _ (by omega),Lw]
   have hlim:acc.length+1≤LIM:=by simp [LIM]; omega
   simp only [cond_true,Bool.and_self,idA]
   cases eh c.2.2.1 <;> simp [hlim]
theorem adb (fuel n7:Nat) (t5:List Stg) (k:Nat) (acc:List Reg) (c0 c1 c2:Int) (hk:k≤t5.length) (hl:t5.length≤1048576) (ha:acc.length≤2097152) : ∀ (n:Nat) (q p:List Stg),t5.take k=p++q→q.length<n →
  k9 fuel n7 n t5 (k:Int) (p.length:Int) acc c0 c1 c2 [] (p.map (·.2.1))=la fuel n7 t5 (k:Int) (acc++[(c0,c1,c2,[],(t5.take k).map (·.2.1),())]):=by
 intro n
 induction n with
 | zero=>intro q p _ h; omega
 | succ n ih =>
  intro q p he h
  have hlen:p.length+q.length≤1048576:=by
   have:=congrArg List.length he
   simp at this
   omega
  rw [My]
  have e0:(List.take (Int.toNat (k:Int)) t5).drop 0=p++q:=by rw [← he]; simp
  rw [e0]
  cases q with
  | nil =>
   rw [ib (t:=av)]
   have hlim:acc.length+1≤LIM:=by simp [LIM]; omega
   simp [hlim,he]
  | cons c q =>
   have next:=ih q (p++[c]) (by rw [he]; simp) (by simp at h; omega)
   rw [← fK (t:=av) p c (by omega)] at next
   rw [bQ (t:=av),dE (t:=av),hZ (t:=av)]
   have hlim:(p.map (fun y:Stg=>y.2.1)).length+1≤LIM:=by simp [LIM]; simp at hlen; omega
   rw [List.map_append] at next
   have hd:decide ((p.map (fun y:Stg=>y.2.1)).length+([c.2.1]:List Int).length≤LIM)=true:=dt hlim
   simp only [cond_true,Bool.and_self]
   rw [hd,cond_true]
   exact next
theorem u6 (m:Nat) (x:Stg) (r:List Stg):rG (m+1) (x::r)=(if (r.takeWhile (fun y=>eqD bm y.1 x.1)).isEmpty then [] else [(2,x.1.1,x.1.2.1,[],x.2.1::(r.takeWhile (fun y=>eqD bm y.1 x.1)).map (·.2.1),())])++rG m (r.dropWhile (fun y=>eqD bm y.1 x.1)):=rfl
theorem ag1 (fuel n7:Nat) (x:Stg) (acc:List Reg) (res:Option AV) : ∀ (n:Nat) (b a:List Stg),(∀ y∈a,eqD bm y.1 x.1=true)→b.length<n→(x::(a++b)).length≤1048576→acc.length≤2097152→(x::(a++b)).length<fuel →
  pu fuel n7 ((a++b).dropWhile (fun y=>eqD bm y.1 x.1)) (acc++(if ((a++b).takeWhile (fun y=>eqD bm y.1 x.1)).isEmpty then [] else [(2,x.1.1,x.1.2.1,[],x.2.1::((a++b).takeWhile (fun y=>eqD bm y.1 x.1)).map (·.2.1),())]))=res →
  sH fuel n7 n (x::(a++b)) (((a.length+1:Nat)):Int) acc=res:=by
 intro n
 induction n with
 | zero=>intro b a _ h; omega
 | succ n ih =>
  intro b a ha h hl hacc hf hres
  have hl':a.length+b.length+1≤1048576:=by simpa using hl
  have h0:ix av (x::(a++b)) 0=x:=rfl
  have hcons:x::(a++b)=(x::a)++b:=rfl
  have hlen:((a.length+1:Nat):Int)=((x::a).length:Int):=by simp
  have c0:decide ((0:Int)<((x::(a++b)).length:Int))=true:=dt (by simp; omega)
  have stop:(∀ y b',b=y::b'→eqD bm y.1 x.1=false)→(bif (decide (((a.length+1:Nat):Int)>1)) then (bif (decide (0≤((a.length+1:Nat):Int))&&decide (((a.length+1:Nat):Int)≤((x::(a++b)).length:Int))) then (k9 fuel n7 fuel (x::(a++b)) ((a.length+1:Nat):Int) 0 acc 2 x.1.1 x.1.2.1 [] []) else none) else (la fuel n7 (x::(a++b)) ((a.length+1:Nat):Int) acc))=res:=by
   intro hb
   have tw:(a++b).takeWhile (fun y=>eqD bm y.1 x.1)=a∧(a++b).dropWhile (fun y=>eqD bm y.1 x.1)=b:=by
    rw [List.takeWhile_append_of_pos ha,List.dropWhile_append_of_pos ha]
    cases b with
    | nil=>simp
    | cons y b'=>have:=hb y b' rfl; simp [this]
   rw [tw.1,tw.2] at hres
   have j19 : ∀ acc',la fuel n7 (x::(a++b)) ((a.length+1:Nat):Int) acc'=pu fuel n7 b acc':=by
    intro acc'
    rw [Mz]
    have c1:decide ((0:Int)≤((a.length+1:Nat):Int))=true:=dt (by omega)
    have c2:decide (((a.length+1:Nat):Int)≤((x::(a++b)).length:Int))=true:=dt (by simp; omega)
    have c3:(List.take (List.length (x::(a++b))) (x::(a++b))).drop (Int.toNat ((a.length+1:Nat):Int))=b:=by
     rw [List.take_length,Int.toNat_natCast,List.drop_succ_cons]; simp
    rw [c1,c2,c3]
    rfl
   have tk:(x::(a++b)).take (a.length+1)=x::a:=by rw [List.take_succ_cons]; simp
   have l14:=adb fuel n7 (x::(a++b)) (a.length+1) acc 2 x.1.1 x.1.2.1 (by simp) hl hacc fuel (x::a) [] (by rw [tk]; rfl) (by simp at hf ⊢; omega)
   rw [tk] at l14
   have l14:k9 fuel n7 fuel (x::(a++b)) ((a.length+1:Nat):Int) 0 acc 2 x.1.1 x.1.2.1 [] []=_:=l14
   rw [l14,j19,j19]
   cases a with
   | nil =>
    have:decide ((([]:List Stg).length+1:Nat)>(1:Int))=false:=df (by simp)
    rw [this]
    simpa using hres
   | cons y a =>
    have d1:decide ((((y::a).length+1:Nat):Int)>1)=true:=dt (by simp; omega)
    have d2:decide ((0:Int)≤(((y::a).length+1:Nat):Int))=true:=dt (by omega)
    have d3:decide ((((y::a).length+1:Nat):Int)≤((x::(y::a++b)).length:Int))=true:=dt (by simp; omega)
    rw [d1,d2,d3]
    simpa using hres
  rw [PZ,h0,c0]
  cases b with
  | nil =>
   have c1:decide (((a.length+1:Nat):Int)<((x::(a++[])).length:Int))=false:=df (by simp)
   rw [c1]
   have:=stop (fun y b' h=>by cases h)
   simp only [uY,cond_true,cond_false,Bool.and_self,Int.le_refl,decide_true]
   exact this
  | cons y b =>
   have e1:ix av (x::(a++y::b)) ((a.length+1:Nat):Int)=y:=by rw [hlen]; exact bQ (t:=av) (x::a) y b
   have c1:decide (((a.length+1:Nat):Int)<((x::(a++y::b)).length:Int))=true:=dt (by simp; omega)
   have c2:decide ((0:Int)≤((a.length+1:Nat):Int))=true:=dt (by omega)
   rw [e1,c1,c2]
   simp only [cond_true,Bool.and_self,bu,Int.le_refl,decide_true]
   cases hy:eqD bm y.1 x.1 with
   | false =>
    rw [cond_false]
    have:=stop (fun y' b' h=>by injection h with h _; subst h; exact hy)
    rw [c2] at this
    simpa using this
   | true =>
    rw [cond_true]
    have next:=ih b (a++[y]) (fun z hz=>by
     rcases List.mem_append.1 hz with hz | hz
     ·exact ha z hz
     ·rw [List.mem_singleton.1 hz]; exact hy) (by simp at h; omega) (by simpa using hl) hacc (by simpa using hf) (by simpa using hres)
    have e2:w64 (((a.length+1:Nat):Int)+1)=(((a++[y]).length+1:Nat):Int):=by
     rw [gY (by omega) (by omega)]; simp
    rw [e2]
    simpa using next
theorem ag2 (fuel:Nat) : ∀ (n m:Nat) (t5:List Stg) (acc:List Reg),t5.length<n→t5.length≤m→t5.length≤1048576→acc.length+t5.length≤2097152→t5.length<fuel →
  pu fuel n t5 acc=some (.val (.slice aG) (acc++rG m t5)):=by
 intro n
 induction n with
 | zero=>intro m t5 acc h; omega
 | succ n ih =>
  intro m t5 acc h hm hl ha hf
  rw [P0]
  cases t5 with
  | nil=>cases m <;> simp [rG]
  | cons x r =>
   cases m with
   | zero=>simp at hm
   | succ m =>
    have c:decide (((x::r).length:Int)>0)=true:=dt (by simp)
    rw [c,cond_true,u6]
    have hd:(r.dropWhile (fun y=>eqD bm y.1 x.1)).length≤r.length:=(List.dropWhile_sublist _).length_le
    simp only [List.length_cons] at h hm hl ha hf
    have:=ag1 fuel n x acc _ fuel r [] (fun y hy=>by cases hy) (by omega) (by simpa using hl) (by omega) (by simpa using hf) rfl
    rw [List.nil_append] at this
    rw [show ((1:Int))=((([]:List Stg).length+1:Nat):Int) from rfl,this,ih m (r.dropWhile (fun y=>eqD bm y.1 x.1)) (acc++(if (r.takeWhile (fun y=>eqD bm y.1 x.1)).isEmpty then [] else [(2,x.1.1,x.1.2.1,[],x.2.1::(r.takeWhile (fun y=>eqD bm y.1 x.1)).map (·.2.1),())])) (by omega) (by omega) (by omega) (by split <;> simp <;> omega) (by omega)]
    simp
theorem FW (m:Mdl):(g8 m).length≤m.1.length:=by
 rw [g8,(hU _ _).length_eq]
 simp only [uz,List.length_map]
 exact List.length_filter_le _ _
theorem oq (s:Sta):(bJ s).1.length≤s.1.length:=by
 simp only [bJ,List.length_map]
 exact List.length_filter_le _ _
theorem Qu {s:Sta} (h:stG s=true):Qx (bJ s)=true:=dt (Nat.le_trans (oq s) (sx h).1)
theorem PY (s:Sta) (h:Tk s=true) : ∃ fuel,Cz fuel s=some (.val (.slice aG) (E0 s)):=by
 obtain ⟨l,u⟩:=s
 have h:stG (l,())=true:=h
 obtain ⟨h1,h2⟩:=sx h
 have hm:=Qu h
 have hl:=oq (l,())
 have hs:=FW (bJ (l,()))
 have hv:=BV (l,())
 simp only at h1 h2 hl hv
 refine ⟨l.length+1, ?_⟩
 rw [ade]
 have:=Vk (l.length+1) l l u h hm (l.length+1) l [] [] (by omega) h1 h2 (by simp)
 have e:fV (l.length+1) (l.length+1) (l,u) 0 l [] l=_:=this
 rw [e,ag2 (l.length+1) (l.length+1) (g8 (bJ (l,()))).length (g8 (bJ (l,()))) ([]++gt (l,())) (by omega) (Nat.le_refl _) (by omega) (by rw [List.nil_append]; omega) (by omega)]
 rfl
end Go.Proofs.YtboikinjlmjgjaaGreat.Abs
namespace Go.Proofs.YtboikinjlmjgjaaGreat.Abs
open Go
end Go.Proofs.YtboikinjlmjgjaaGreat.Abs
