/- The names of an entity. -/
import Derived.Deep.AppendSrc
import Derived.WalkSpells
import Derived.Test.YteiopcmalidhaaaGreatRunZ
import Derived.Test.YteiopcmalidhaaaGreatTotK
set_option linter.all false
noncomputable section
namespace Go.Proofs.YteiopcmalidhaaaGreat
namespace Abs
open Go Go.Proofs Go.RowKit Go.Maps Go.Shelf Tryz
structure WK where
 id:Int
 fd:Int
 nn:Int
 fl:Bool
 tx:ByteArray
 rf:Int
def agm (w:World)(B:Nat)(v:Value)(n:Nat)(f:List Value):Prop :=
 ∃A c,v = .slice A n c∧(A=none→n=0)∧(0<n→∃b o,A=some ⟨b,o,none⟩∧b<B∧∀j u,f[j]? = some u→w.cell? ⟨b,o+j,none⟩=some u)
def jX {P:Program}(w:World){R:Array Oper}{au:List Oper}{o:Oper}{a:Act}{Q:Exit→Act→World→Prop}(hgd:o.guard=none)(s x:Operand)(t:TypeId)
  (ho:o.op = .call { callee :=.builtin .append,args :=#[s,x],argTypes :=#[t,t] }) (g:Nat) (e:TypeId) (i:TypeInfo) (z:Value) (size bytes:Nat) (ht:P.underlying t=some (.slice e)) (hi:P.info? e=some i) (hz:i.zero=some z)
  (p:i.size=size) (hby:i.bytes=bytes) (hzs:z.cells.size=size) (hsz:0<size) (v:Value) (n:Nat) (U:List Value) (hs:a.eval s=v) (T:w.ownsRow g e size v n U)
  (A:Option Addr) (m c:Nat) (f:List Value) (hx:a.eval x = .slice A m c) (hl:f.length=m*size) (hA:m=0∨∃ad,A=some ad∧∀j u,f[j]? = some u→w.cell? (ad.add j)=some u) (h1:∀u∈f,u.oneCell'=true)
  (h63:n+m≤maxLen) (l:(n+m)*bytes≤140737488355328) (r:g≤w.heap.size)
  (h:∀C J,J.ownsRow g e size C (n+m) (U++f)→w.grownBy J v.ownBlock→(C.ownBlock=v.ownBlock∨C.ownBlock=some w.heap.size)→wpList P R Q au (a.put o.dst C) J):wpList P R Q (o::au) a w :=
 ajE hgd λ_ hK=>by obtain⟨C,J,hr,h2,h3,h4,_,_⟩:=cV (P:=P) (B:={ b:=g }) w t o.type e i z size bytes ht hi hz p hby hzs hsz v n U T A m c f hl hA h1 h63 l r;unfold Oper.wp execOp;simp[ho,resolve,invoke,builtin,ξ,a_,hs,hx,hr];exact hK _ _ (h C J h2 h3 h4)
def Aw (x:WK):List Value:=[.int .i64 x.id,.int .i64 x.fd,.int .i64 x.nn,.bool x.fl,.string x.tx,.int .i64 x.rf]
def flW (l:List WK):List Value:=(l.map Aw).flatten
def Tj (l:List WK):(flW l).length=l.length*6:=by
 induction l with
 |nil=>rfl
 |cons x l f=>simp[flW,Aw]at f⊢;omega
def acM (l:List WK):∀u∈flW l,u.oneCell'=true:=by intro u f;obtain⟨c,g,f⟩:=List.mem_flatten.1 f;obtain⟨x,_,rfl⟩:=s_.1 g;simp[Aw]at f;obtain rfl|rfl|rfl|rfl|rfl|rfl:=f <;> rfl
def VO (l:List Int):∀u∈intsI l,u.oneCell'=true:=by simp[intsI,Value.oneCell']
def HZ (l:List Int):(intsI l).length=l.length*1:=by simp[intsI]
def ag6:(prog.info? 65).map (λi=>(i.zero,i.size,i.bytes))=some (some (.agg #[.int .i64 0,.int .i64 0,.int .i64 0,.bool false,.string ByteArray.empty,.int .i64 0]),6,56):=Φ
def sd:prog.underlying 33=some (.slice 3):=Φ
def sa:prog.underlying 39=some (.slice 65):=Φ
set_option maxHeartbeats 1000000 in
def KX (l:List Int)(h:l.length≤1048576)(w:World)(v:Value)(hv:agm w w.heap.size v l.length (intsI l)):Calls prog 63 #[v] w λe r=>∃T,e = .returned T∧r.ownsRow w.heap.size 3 1 T l.length (intsI l)∧w.grownBy r none:=by
 obtain⟨A,c,rfl,h0,h1⟩:=hv;obtain⟨i0,hi0,hz0,hz1,hz2⟩:=info_parts Te;have qn:∀(w:World) (a:Option Addr) (n c U c':Nat),(binOp .eql 33 (.slice a n c) (.slice none U c')).run prog w = .ok (.bool a.isNone) w:=λw a n c U c'=>Lib.run_eql_slice_nil w _ _ a n c U c' (sd);cases A with
 |none=>
  have hl:=h0 rfl;have J:∀r:World,r.ownsRow w.heap.size 3 1 (.slice none 0 0) l.length (intsI l):=λr=>⟨HZ l,.inl ⟨rfl,hl⟩⟩
  go_enter func63,ntmps63
  go_wp2
  go_ret
  refine⟨_,rfl, ?_,rfl,rfl,rfl,ζ _,λ_ _ _=>rfl⟩;have:=J w;simpa[hl]using this
 |some ad=>
  have hc:l.length=0∨∃R,(some ad:Option Addr)=some R∧∀j u,(intsI l)[j]? = some u→(w.alloc (.cells #[] 3)).cell? (R.add j)=some u:=by
   obtain h|h:=Nat.eq_zero_or_pos l.length
   ·exact .inl h
   ·obtain⟨b,o,e,hlt,g⟩:=h1 h;cases e;refine .inr ⟨_,rfl,λj u hj=>?_⟩;rw[Addr.add_mid];exact((Below.refl _ w).alloc (ζ _) _ |>.cell (p:=⟨b,o+j,none⟩) hlt).trans (g j u hj)
  have f:(w.alloc (.cells #[] 3)).ownsRow w.heap.size 3 1 (.slice (some ⟨w.heap.size,0,none⟩) 0 0) 0 []:=World.ownsRow_made _ #[] 0 (ζ _) (c_ _) rfl
  go_enter func63,ntmps63
  go_wp2_with (first
   |(at_builtin;refine jX _ rfl (.tmp 5) (.tmp 6) 33 rfl w.heap.size 3 i0 (.int .i64 0) 1 8 (sd) hi0 hz0 hz1 hz2 rfl Ϛ (.slice (some ⟨w.heap.size,0,none⟩) 0 0) 0 [] rfl f (some ad) l.length _ (intsI l) rfl (HZ l) hc (VO l) (by unfold maxLen;omega) Ω Ψ ?_;intro T r h2 P _)
   |go_in)
  go_ret
  refine⟨T,rfl,by simpa using h2, ?_⟩;have C:=i_ w (.cells #[] 3) none;exact⟨P.os.trans C.os,P.tape.trans C.tape,P.output.trans C.output,Θ C.size P.size,λk hk _=>(P.block k (k_ hk C.size) (λe=>by have e:some k=some w.heap.size:=e;injection e with e;omega)).trans (C.block k hk Ψ)⟩
set_option maxHeartbeats 1000000 in
def KW (l:List WK)(h:l.length≤1048576)(w:World)(v:Value)(hv:agm w w.heap.size v l.length (flW l)):Calls prog 64 #[v] w λe r=>∃T,e = .returned T∧r.ownsRow w.heap.size 65 6 T l.length (flW l)∧w.grownBy r none:=by
 obtain⟨A,c,rfl,h0,h1⟩:=hv;obtain⟨i0,hi0,hz0,hz1,hz2⟩:=info_parts ag6;have qn:∀(w:World) (a:Option Addr) (n c U c':Nat),(binOp .eql 39 (.slice a n c) (.slice none U c')).run prog w = .ok (.bool a.isNone) w:=λw a n c U c'=>Lib.run_eql_slice_nil w _ _ a n c U c' (sa);cases A with
 |none=>
  have hl:=h0 rfl;have J:∀r:World,r.ownsRow w.heap.size 65 6 (.slice none 0 0) l.length (flW l):=λr=>⟨Tj l,.inl ⟨rfl,hl⟩⟩
  go_enter func64,ntmps64
  go_wp2
  go_ret
  refine⟨_,rfl, ?_,rfl,rfl,rfl,ζ _,λ_ _ _=>rfl⟩;have:=J w;simpa[hl]using this
 |some ad=>
  have hc:l.length=0∨∃R,(some ad:Option Addr)=some R∧∀j u,(flW l)[j]? = some u→(w.alloc (.cells #[] 65)).cell? (R.add j)=some u:=by
   obtain h|h:=Nat.eq_zero_or_pos l.length
   ·exact .inl h
   ·obtain⟨b,o,e,hlt,g⟩:=h1 h;cases e;refine .inr ⟨_,rfl,λj u hj=>?_⟩;rw[Addr.add_mid];exact((Below.refl _ w).alloc (ζ _) _ |>.cell (p:=⟨b,o+j,none⟩) hlt).trans (g j u hj)
  have f:(w.alloc (.cells #[] 65)).ownsRow w.heap.size 65 6 (.slice (some ⟨w.heap.size,0,none⟩) 0 0) 0 []:=World.ownsRow_made _ #[] 0 (ζ _) (c_ _) rfl
  go_enter func64,ntmps64
  go_wp2_with (first
   |(at_builtin;refine jX _ rfl (.tmp 5) (.tmp 6) 39 rfl w.heap.size 65 i0 (.agg #[.int .i64 0,.int .i64 0,.int .i64 0,.bool false,.string ByteArray.empty,.int .i64 0]) 6 56 (sa) hi0 hz0 hz1 hz2 rfl Ϛ (.slice (some ⟨w.heap.size,0,none⟩) 0 0) 0 [] rfl f (some ad) l.length _ (flW l) rfl (Tj l) hc (acM l) (by unfold maxLen;omega) Ω Ψ ?_;intro T r h2 P _)
   |go_in)
  go_ret
  refine⟨T,rfl,by simpa using h2, ?_⟩;have C:=i_ w (.cells #[] 65) none;exact⟨P.os.trans C.os,P.tape.trans C.tape,P.output.trans C.output,Θ C.size P.size,λk hk _=>(P.block k (k_ hk C.size) (λe=>by have e:some k=some w.heap.size:=e;injection e with e;omega)).trans (C.block k hk Ψ)⟩
def Lr (c:Cel):WK:=⟨c.1,c.2.1,c.2.2.1.1,c.2.2.1.2.1,⟨c.2.2.1.2.2.1.toArray⟩,c.2.2.1.2.2.2.1⟩
variable{w:World}{St:Sb}
def agD {c:Cel}{f:List Value}(h:Rep w St (toD tCell c) f):f=Aw (Lr c):=by obtain⟨a1,r1,rfl,⟨rfl,_⟩,a2,r2,rfl,⟨rfl,_⟩,a3,r3,rfl,⟨b1,s1,rfl,⟨rfl,_⟩,b2,s2,rfl,⟨rfl,_⟩,b3,s3,rfl,⟨rfl,_⟩,b4,s4,rfl,⟨rfl,_⟩,rfl⟩,rfl⟩:=h;rfl
def XH (c:Cel):Rep w St (toD tCell c) (Aw (Lr c)) :=
 ⟨[_],_,rfl,⟨rfl,rfl⟩,[_],_,rfl,⟨rfl,rfl⟩,_,[],rfl,⟨[_],_,rfl,⟨rfl,rfl⟩,[_],_,rfl,⟨rfl,rfl⟩,[_],_,rfl,⟨rfl,rfl⟩,[_],[],rfl,⟨rfl,rfl⟩,rfl⟩,rfl⟩
def TK {w:World}{St:Sb}:∀{l:List Cel} {f:List Value},Rep w St (chain (toD tCell) l) f→f=flW (l.map Lr)
 |[],f,h=>h
 |c::l,f,h=>by obtain⟨c1,c2,rfl,j,g⟩:=h;rw[agD j,TK g];rfl
def Ft {w:World}{St:Sb}:∀l:List Cel,Rep w St (chain (toD tCell) l) (flW (l.map Lr))
 |[]=>rfl
 |c::l=>⟨Aw (Lr c),_,rfl,XH c,Ft l⟩
def TL {w:World}{St:Sb}:∀{l:List Int} {f:List Value},Rep w St (chain (toD (.int .i64)) l) f→f=intsI l
 |[],f,h=>h
 |c::l,f,h=>by obtain⟨c1,c2,rfl,⟨rfl,_⟩,h2⟩:=h;rw[TL h2];rfl
def Hj {t:Ty}(hz:0<t.size)(P:∀b o,St b o→b<w.heap.size){l:List t.den}{v:Value}{xs:List Value}(h:Rep w St (toD (.slice t) l) [v])(hx:∀r,Rep w St (chain (toD t) l) r→r=xs):agm w w.heap.size v l.length xs:=by
 obtain⟨A,c,e,hc,T⟩:=dw h;injection e with e;refine⟨A,c,e,λhA=>?_,λhn=>?_⟩
 ·obtain h|⟨U,r,rfl,_⟩:=T
  ·exact h
  ·cases hA
 ·obtain h|⟨U,r,rfl,J,R,p⟩:=T
  ·omega
  ·obtain⟨b,g,sp⟩:=U;have J:sp=none:=J;subst J;obtain rfl:=hx r R;have f:∀j u,r[j]? = some u→w.cell? ⟨b,g+j,none⟩=some u∧St b (g+j):=λj u C=>by
    have:=p j u C;rwa[cN]at this
   refine⟨b,g,rfl, ?_,λj u C=>(f j u C).1⟩;cases l with
   |nil=>simp at hn
   |cons x l=>
    obtain⟨c1,c2,rfl,h1,_⟩:=R;cases c1 with
    |nil =>have:=h1.size;simp at this;omega
    |cons u c1=>exact P _ _ (f 0 u rfl).2
def SG {t:Ty}{x:t.den}{f:List Value}(h:RepVs w St [⟨t,x⟩] f):∃v,f=[v]∧RepV w St t x v:=by
 match f,h with
 |[v],⟨g,_⟩=>exact⟨v,rfl,g⟩
def BM {W:World}(f:w.grownBy W none):Below w.heap.size w W:=(Below.refl _ w).grown f (ζ _) λk e=>by cases e
def YQ (l:List Int):Bool:=decide (l.length≤1048576)
def idI (l:List Int):List Int:=l
def acy (l:List Cel):Bool:=decide (l.length≤1048576)
def idC (l:List Cel):List Cel:=l
def aab (l:List Int)(h:YQ l=true):MeetsD prog 63 [⟨.slice (.int .i64),l⟩] (.val (.slice (.int .i64)) (idI l)):=by refine⟨⟨_,func63,rfl,Φ⟩,λw St j J f=>?_⟩;obtain⟨v,rfl,g⟩:=SG f;unfold RepV at g;rw[B' (by simp[Ty.isStruct])]at g;refine(KX l (p_ h) w v (Hj (t :=.int .i64) Ϛ j g λR h=>TL h)).mono ?_;rintro e C ⟨P,rfl,p,r⟩;exact DF (τ :=.int .i64) (BM r) (ζ _) (xs:=intsI l) p (Jw _)
def aae (l:List Cel)(h:acy l=true):MeetsD prog 64 [⟨.slice tCell,l⟩] (.val (.slice tCell) (idC l)):=by
 refine⟨⟨_,func64,rfl,Φ⟩,λw St p P f=>?_⟩;obtain⟨v,rfl,g⟩:=SG f;unfold RepV at g;rw[B' (by simp[Ty.isStruct])]at g;have j:l.length=(l.map Lr).length:=by rw[o_]
 have:=KW (l.map Lr) (by rw[←j];exact p_ h) w v (by rw[←j];exact Hj (t:=tCell) Ϛ p g λT h=>TK h);rw[←j]at this;refine this.mono ?_;rintro e J ⟨R,rfl,r,C⟩;exact DF (τ:=tCell) (BM C) (ζ _) (xs:=flW (l.map Lr)) r (Ft _)
end Abs
namespace Clo
open Go Go.RowKit Tryz
def QZ [SymVal]{r:RC}(h:S7 r=true):∃d n,r = .ok (.pv (.one (.bl true))) d n:=by
 cases r with
 |no=>cases h
 |ok v d n =>have h:Ui v (.pv (.one (.bl true)))=true:=h;obtain rfl:=I6 h;exact⟨d,n,rfl⟩
def awake_meets:Abs.MeetsD prog 12 [] (.val .bool true):=by
 letI:SymVal:=⟨λ_=>.bool true,λ_=>rfl,λ_=>True⟩
 obtain⟨d,n,j⟩:=QZ Ww;refine yx (λ_=>trivial) Abs.follows (Uu Abs.follows W9) (ds:=[]) (λw St g f=>?_) j rfl ⟨_,func12,Φ,Φ⟩;cases g with
 |nil=>trivial
 |cons _ _=>exact f.elim
end Clo
namespace Abs
open Tryz
def adD:MeetsD prog 12 [] (.val .bool true):=Clo.awake_meets
abbrev aK:Ty:=(.cons tInt (.cons .str .unit))
abbrev Se:Ty:=.cons tInt (.cons tInt (.cons tInt (.cons tInt (.cons .str (.cons .str (.cons (.slice tInt) .unit))))))
abbrev Xd:Ty:=(.cons tInt (.cons Se .unit))
open Go
def RP:Bool:=true
def Qk (l:List tCommit.den):List Int:=wH (l.map fW)
open Classical in
def Yh (l:List tCommit.den):Bool:=decide (GoodK (l.map fW))
variable{l:List tCommit.den}
open Classical in
def abO (h:Yh l=true):GoodK (l.map fW):=p_ h
open Classical in
def abP (h:GoodK (l.map fW)):Yh l=true:=H_ h
def aaa:ai prog 63 (sp1 (.slice tInt) (λf=>YQ f) (λf=>.val (.slice tInt) (idI f))):=ol λx h=>aab x h
def aad:ai prog 64 (sp1 (.slice tCell) (λf=>acy f) (λf=>.val (.slice tCell) (idC f))):=ol λx h=>aae x h
def Yd:ai prog 34 (sp1 (.slice tCommit) (λf=>Yh f) (λf=>.val (.slice tInt) (Qk f))):=ol λx h=>Ye (c:=tCell) x (abO h)
def Wx:ai prog 12 (sp0 (.val .bool (RP))):=aey adD
section
def ji:TabL:={
 ty:=[(3,tInt),(4,.bool),(9,.str),(22,(.slice bi)),(23,(.slice tCommit)),(26,(.slice aK)),(29,aK),(33,(.slice tInt)),(36,aM),(39,(.slice tCell)),(41,tCommit),(45,(.slice ae)),(47,ag),(59,bi),(65,tCell),(66,tInt),(69,(.slice Xd)),(86,(.slice eM)),(89,eM),(124,Se),(126,Xd),(128,ae)],
 cells:=[(3,1),(4,1),(9,1),(22,1),(23,1),(26,1),(29,2),(33,1),(36,4),(39,1),(41,5),(45,1),(47,1),(59,4),(65,6),(66,1),(69,1),(86,1),(89,5),(101,1),(124,7),(126,8),(128,3)],
 offs:=[((29,0),0),((29,1),1),((36,0),0),((36,1),1),((36,2),2),((36,3),3),((41,0),0),((41,1),1),((41,2),2),((41,3),3),((41,4),4),((47,0),0),((59,0),0),((59,1),1),((59,2),2),((59,3),3),((65,0),0),((65,1),1),((65,2),2),((89,0),0),((89,1),1),((124,0),0),((124,1),1),((124,2),2),((124,3),3),((124,4),4),((124,5),5),((124,6),6),((126,0),0),((126,1),1),((128,0),0),((128,1),1),((128,2),2)],
 one:=[],
 elem:=[(22,59),(23,41),(26,29),(33,3),(39,65),(45,128),(69,126),(86,89)] }
def gT:TabOk prog ji.tab:=TabL.ok Φ
variable{g:Type}
def nO (m:Bool)(K:(List Int)→Option g)(l:(List tCommit.den)):Option g:=cl m ag (FE l) λr1=>cl m (.slice tInt) (aS r1 0) λr2=>K r2
def kJ (l:(List tCommit.den)):Option (List Int):=nO false some l
def Bz:Ent:=evE (.cons (.slice tCommit) .unit) ar (zero (.slice tInt)) λx=>kJ x.1
def Of:Par:=⟨ji.tab,Ja [(20,aeg)] [] [] [] [(39,nQ)],λ_=>look [],λ_=>look []⟩
def Oe:ai prog 33 (Bz):=evX func33 (S:=Of) gT (zK ⟨ahg,ans⟩ trivial trivial trivial ⟨tD,ans⟩) (tys:=[(.slice tInt)]) (λf x=>nO true (sm ar) x.1) (λx=>by show _=Option.map ar _;simp only[nO,kJ,ss])
def uZ (m:Bool)(K:Int→Option g)(l:(List tCommit.den))(x:Int):Option g:=cl m tInt (mod2_ev x 23) λr1=>cond (r1=22) (K 5242887) (cl m (.slice tInt) (kJ l) (λr2=>ck (!(2:Int)=0) (cl m tInt (bk r2 (w64 (Int.tdiv x 2))) (λr3=>K r3))))
def mt (l:(List tCommit.den))(x:Int):Option Int:=uZ false some l x
def Ik:Ent:=evE (.cons (.slice tCommit) (.cons tInt .unit)) aA (zero tInt) λx=>mt x.1 x.2.1
def V8:Par:=⟨ji.tab,aE [(31,z8),(33,Bz),(32,B7)],λ_=>look [],λ_=>look []⟩
def V7:ai prog 9 (Ik):=evX func9 (S:=V8) gT (af ⟨mod2_x,Oe,JO,ans⟩) (tys:=[tInt]) (λf x=>uZ true (sm aA) x.1 x.2.1) (λx=>by show _=Option.map aA _;simp only[uZ,mt,ss])
abbrev lS (g:Type):=(List Int)→tCommit.den→Int→Option g
def pe (m:Bool)(K:Bool→Option g)(f:lS g):lS g:=λdone c i=>cond (i<il c.2.1) (ck (bd i c.2.1.length) (cl m .bool (nK done (ix tInt c.2.1 i)) (λr1=>cond (!r1) (K false) (fz m tInt (w64 (i+1)) (λj=>f done c j))))) (K true)
def xR (m:Bool)(K:Bool→Option g)(f:lS g)(c:tCommit.den)(done:(List Int)):Option g:=f done c 0
def qC:Nat→lS Bool:=lp (λ_ _ _=>none) λf=>pe false some f
def iH (c:tCommit.den)(done:(List Int)):Option Bool:=xR false some (qC FU) c done
def My:Ent:=evE (.cons tCommit (.cons (.slice tInt) .unit)) aa (zero .bool) λx=>iH x.1 x.2.1
def Dq:MS:=⟨1,[(0,[.dat tInt,.dat (.slice tInt),.dat (.slice tInt),.dat .str,.dat (.slice tCell)])],[(1,.dat (.slice tInt)),(2,.keep),(5,.dat tInt)]⟩
def Mz:Par:=⟨ji.tab,aE [(21,tf)],λ_=>look [],λ_=>look [(2,Dq)]⟩
def XJ:KT:=bw ji.tab [.tmp 4] [.bool]
noncomputable def MA (f g:Nat)(p:List Nat):Sg→KT→Option AV:=xc (bN fi0 hs0 f 0) Mz g f (sub (f65.body.getD .skip) p)
noncomputable def qA (f n:Nat):lS AV:=λdone c i=>aW 0 Dq (MA f 0 [1,0,1,0,0]) (am 0 (bc 0 none (MA f 0 [1,1]) XJ)) n ⟨mkE 21 [(1,.val (.slice tInt) done),(2,.box 0 0),(5,.val tInt i)],mkH 1 [(0,.box [.val tInt c.1,.val (.slice tInt) c.2.1,.val (.slice tInt) c.2.2.1,.val .str c.2.2.2.1,.val (.slice tCell) c.2.2.2.2.1])]⟩
def P4 (f g:Nat):qA f (g+1)=pe true (sm aa) (qA f g):=Φ
def P5:∀n,qA FU n=mp3 aa (qC n):=co Φ λf _ h=>(P4 FU f).trans (by rw[h];funext _ _ _;simp only[pe,ss])
def XI:ai prog 65 (My):=evX func65 (S:=Mz) gT (af ⟨wS,ans⟩) (tys:=[.bool]) (λf x=>xR true (sm aa) (qA f f) x.1 x.2.1) (λx=>by show _=Option.map aa _;rw[P5 FU];simp only[xR,iH,ss])
abbrev dR (g:Type):=(List tCommit.den)→(List Int)→Option g
def gA (m:Bool)(K:(List Int)→Option g)(f:bK g):dR g:=λl out=>f l out 0
def Jz (g:tCommit.den)(f:(List Int)):Bool:=(iH g f).isSome
def JA (g:tCommit.den)(f:(List Int)):Bool:=(iH g f).getD (zero .bool)
def pg (m:Bool)(K:(List Int)→Option g)(j:bK g)(p:dR g):bK g:=λl out f=>nm m 2 (f<il l) (bd f l.length) (nq m [2,2] (f<il l) (nm m 2 (f<il l) (yQ out (ix tCommit l f).1) (nq m [2] (f<il l) (nm m 2 (f<il l&&!gG out (ix tCommit l f).1) (bd f l.length) (nq m [2] (f<il l&&!gG out (ix tCommit l f).1) (nm m 2 (f<il l&&!gG out (ix tCommit l f).1) (Jz (ix tCommit l f) out) (nq m [2] (f<il l&&!gG out (ix tCommit l f).1) (nm m 0 (f<il l) (ii (f<il l&&!gG out (ix tCommit l f).1)) (nq m [1] (f<il l) (cond (cond (f<il l) (cond (gG out (ix tCommit l f).1) true (!JA (ix tCommit l f) out)) false) (fz m tInt (w64 (f+1)) (λr=>j l out r)) (cond (f=il l) (K out) (ck (bd f l.length) (ck (lm (List.length out+List.length ([(ix tCommit l f).1]:List Int))) (fz m (.slice tInt) (out++[(ix tCommit l f).1]) (λC=>p l C)))))))))))))))
def yc (m:Bool)(K:(List Int)→Option g)(f:dR g)(l:(List tCommit.den)):Option g:=f l []
def eX (g:dR (List Int)):Nat→bK (List Int):=lp (λ_ _ _=>none) λf=>pg false some f g
def iJ:Nat→dR (List Int):=lp (λ_ _=>none) λf=>gA false some (eX f FU)
def ph (l:(List tCommit.den)):Option (List Int):=yc false some (iJ FU) l
def MU:Ent:=evE (.cons (.slice tCommit) .unit) ar (zero (.slice tInt)) λx=>ph x.1
def wG:MS:=⟨0,[],[(0,.dat (.slice tCommit)),(3,.own tInt 3)]⟩
def MV:Par:=⟨ji.tab,aE [(21,tf),(65,My)],λ_=>look [],λ_=>look [(2,wG),(3,gg)]⟩
def MW:KT:=bw ji.tab [.tmp 2] [(.slice tInt)]
noncomputable def yd (f g:Nat)(p:List Nat):Sg→KT→Option AV:=xc (bN fi0 hs0 f 0) MV g f (sub (f36.body.getD .skip) p)
noncomputable def lV (f n:Nat):dR AV:=λl out=>aW 0 wG (yd f 0 [1,1,0,0]) (am 0 MW) n ⟨mkE 42 [(0,.val (.slice tCommit) l),(3,.own 0 0 tInt out)],mkH 1 [(0,.row tInt 3 0)]⟩
noncomputable def qL (f j n:Nat):bK AV:=λl out g=>aW 0 gg (yd f 0 [1,1,0,0,0,1,0,0,0]) (am 2 (bc 0 none (yd f 0 [1,1,0,0,0,1,1]) (am 1 (kLp 0 wG (yd f 0 [1,1,0,0]) (am 0 MW) j)))) n ⟨mkE 42 [(0,.val (.slice tCommit) l),(3,.own 0 0 tInt out),(4,.val tInt g)],mkH 1 [(0,.row tInt 3 0)]⟩
def Qi (f g:Nat):lV f (g+1)=gA true (sm ar) (qL f g f):=Φ
def Qg (f g j:Nat):qL f g (j+1)=pg true (sm ar) (qL f g j) (lV f g):=Φ
def Qh (j:Nat){f:dR (List Int)}(g:lV FU j=mp2 ar f):∀n,qL FU j n=mp3 ar (eX f n):=co Φ λl _ h=>(Qg FU j l).trans (by rw[h,g];funext _ _ _;simp only[pg,ss])
def Qj:∀n,lV FU n=mp2 ar (iJ n):=co Φ λf _ h=>(Qi FU f).trans (by rw[Qh f h FU];funext _ _;simp only[gA,ss])
def Yc:ai prog 36 (MU):=evX func36 (S:=MV) gT (af ⟨wS,XI,ans⟩) (tys:=[(.slice tInt)]) (λf x=>yc true (sm ar) (lV f f) x.1) (λx=>by show _=Option.map ar _;rw[Qj FU];simp only[yc,ph,ss])
abbrev ca:=(List aK.den)
abbrev bI (g:Type):=(List tCommit.den)→Int→(List Int)→(List aK.den)→Int→Option g
abbrev QF (g:Type):=(List tCommit.den)→Int→(List Int)→Int→(List aK.den)→Option g
def pw (m:Bool)(K:ca→Option g)(f:bI g):QF g:=λl id r1 i out=>fz m tInt (w64 (i+1)) λj=>f l id r1 out j
def pu (m:Bool)(K:ca→Option g)(f:bI g):bI g:=λl id r1 out i=>cond (i<il r1) (ck (bd i r1.length) (cl m (.cons tCommit (.cons .bool .unit)) (iS l (ix tInt r1 i)) (λr2=>cl m (.cons aM (.cons .bool .unit)) (b7 r2.1.2.2.2.2.1 id 3) λr3=>cond r3.2.1 (ck (lm (List.length out+List.length ([(r2.1.1,r3.1.2.2.1,())]:List aK.den))) (fz m (.slice aK) (out++[(r2.1.1,r3.1.2.2.1,())]) (λj=>pw m K f l id r1 i j))) (pw m K f l id r1 i out)))) (K out)
def yn (m:Bool)(K:ca→Option g)(f:bI g)(l:(List tCommit.den))(id:Int):Option g:=cl m (.slice tInt) (ph l) λr1=>f l id r1 [] 0
def lX:Nat→bI ca:=lp (λ_ _ _ _ _=>none) λf=>pu false some f
def px (l:(List tCommit.den))(id:Int):Option ca:=yn false some (lX FU) l id
def dA (r:ca):AV :=.val (.slice aK) r
def Ni:Ent:=evE (.cons (.slice tCommit) (.cons tInt .unit)) dA (zero (.slice aK)) λx=>px x.1 x.2.1
def wK:MS:=⟨0,[],[(0,.dat (.slice tCommit)),(1,.dat tInt),(5,.own aK 29),(6,.dat (.slice tInt)),(7,.dat tInt)]⟩
def Nj:Par:=⟨ji.tab,aE [(36,MU),(18,yX),(17,la)],λ_=>look [(5,wK)],λ_=>look [(4,wK)]⟩
def Eg:KT:=bw ji.tab [.tmp 4] [(.slice aK)]
noncomputable def Nk (f g:Nat)(p:List Nat):Sg→KT→Option AV:=xc (bN fi0 hs0 f 0) Nj g f (sub (f11.body.getD .skip) p)
noncomputable def qP (f n:Nat):bI AV:=λl id r1 out i=>aW 0 wK (Nk f 0 [1,1,1,0,1,0,0]) (am 0 (bc 0 none (Nk f 0 [1,1,1,1]) Eg)) n ⟨mkE 46 [(0,.val (.slice tCommit) l),(1,.val tInt id),(5,.own 0 0 aK out),(6,.val (.slice tInt) r1),(7,.val tInt i)],mkH 1 [(0,.row aK 29 0)]⟩
def QG (f g:Nat):qP f (g+1)=pu true (sm dA) (qP f g):=Φ
def QH:∀n,qP FU n=mp5 dA (lX n):=co Φ λf _ h=>(QG FU f).trans (by rw[h];funext _ _ _ _ _;simp only[pu,pw,ss])
def YE:ai prog 11 (Ni):=evX func11 (S:=Nj) gT (af ⟨Yc,EU,p8,ans⟩) (tys:=[(.slice aK)]) (λf x=>yn true (sm dA) (qP f f) x.1 x.2.1) (λx=>by show _=Option.map dA _;rw[QH FU];simp only[yn,px,pw,ss])
def aac:Ent:=sp1 (.slice tInt) (λf=>YQ f) λf=>.val (.slice tInt) (idI f)
def aaf:Ent:=sp1 (.slice tCell) (λf=>acy f) λf=>.val (.slice tCell) (idC f)
abbrev pQ (g:Type):=Int→(List tCommit.den)→Int→Option g
def tv (m:Bool)(K:dE→Option g)(p:pQ g):pQ g:=λj l f=>cond (f<il l) (ck (bd f l.length) (cond ((ix tCommit l f).1=j) (ce m (.slice tInt) (YQ (ix tCommit l f).2.1) (idI (ix tCommit l f).2.1) (λr1=>ce m (.slice tInt) (YQ (ix tCommit l f).2.2.1) (idI (ix tCommit l f).2.2.1) λr2=>ce m (.slice tCell) (acy (ix tCommit l f).2.2.2.2.1) (idC (ix tCommit l f).2.2.2.2.1) λr3=>K (((ix tCommit l f).1,r1,r2,(ix tCommit l f).2.2.2.1,r3,()),true,()))) (fz m tInt (w64 (f+1)) (λr=>p j l r)))) (K ((0,[],[],[],[],()),false,()))
def Cm (m:Bool)(K:dE→Option g)(j:pQ g)(l:(List tCommit.den))(f:Int):Option g:=j f l 0
def uX:Nat→pQ dE:=lp (λ_ _ _=>none) λf=>tv false some f
def pR (l:(List tCommit.den))(f:Int):Option dE:=Cm false some (uX FU) l f
def Tk:Ent:=evE (.cons (.slice tCommit) (.cons tInt .unit)) dD (zero (.cons tCommit (.cons .bool .unit))) λx=>pR x.1 x.2.1
def Ii:MS:=⟨1,[(0,[.dat tInt,.own tInt 3,.own tInt 3,.dat .str,.own tCell 65])],[(1,.dat tInt),(4,.keep),(8,.dat (.slice tCommit)),(9,.dat tInt),(10,.dat tInt)]⟩
def Tl:Par:=⟨ji.tab,aE [(63,aac),(64,aaf)],λ_=>look [],λ_=>look [(2,Ii)]⟩
def acP:KT:=bw ji.tab [.cell 4 41,.tmp 5] [tCommit,.bool]
noncomputable def Tm (f g:Nat)(p:List Nat):Sg→KT→Option AV:=xc (bN fi0 hs0 f 0) Tl g f (sub (f35.body.getD .skip) p)
noncomputable def uW (f n:Nat):pQ AV:=λg l j=>aW 0 Ii (Tm f 0 [1,0,1,0,0]) (am 0 (bc 0 none (Tm f 0 [1,1]) acP)) n ⟨mkE 33 [(1,.val tInt g),(4,.box 0 0),(8,.val (.slice tCommit) l),(9,.val tInt (il l)),(10,.val tInt j)],mkH 4 [(0,.box [.val tInt (0:Int),.own 1 0 tInt [],.own 2 0 tInt [],.val .str [],.own 3 0 tCell []]),(1,.row tInt 3 0),(2,.row tInt 3 0),(3,.row tCell 65 0)]⟩
def V5 (f g:Nat):uW f (g+1)=tv true (sm dD) (uW f g):=Φ
def V6:∀n,uW FU n=mp3 dD (uX n):=co Φ λf _ h=>(V5 FU f).trans (by rw[h];funext _ _ _;simp only[tv,ss])
def acO:ai prog 35 (Tk):=evX func35 (S:=Tl) gT (af ⟨aaa,aad,ans⟩) (tys:=[tCommit,.bool]) (λf x=>Cm true (sm dD) (uW f f) x.1 x.2.1) (λx=>by show _=Option.map dD _;rw[V6 FU];simp only[Cm,pR,ss])
def Yf:Ent:=sp1 (.slice tCommit) (λf=>Yh f) λf=>.val (.slice tInt) (Qk f)
abbrev iK (g:Type):=(List tCommit.den)→Int→(List Int)→Int→(Ty.den (.cons tCommit (.cons .bool .unit)))→(List aK.den)→Int→Option g
abbrev Nl (g:Type):=(List tCommit.den)→Int→(List Int)→Int→(Ty.den (.cons tCommit (.cons .bool .unit)))→Int→(List aK.den)→Option g
def pA (m:Bool)(K:ca→Option g)(j:iK g):bI g:=λl id r1 out f=>cond (f<il r1) (ck (bd f r1.length) (cl m (.cons tCommit (.cons .bool .unit)) (pR l (ix tInt r1 f)) (λr2=>j l id r1 f r2 out 0))) (K out)
def iN (m:Bool)(K:ca→Option g)(f:iK g):Nl g:=λl id r1 r r2 p out=>fz m tInt (w64 (p+1)) λj=>f l id r1 r r2 out j
def pz (m:Bool)(K:ca→Option g)(p:iK g)(r:bI g):iK g:=λl id r1 j r2 out f=>cond (f<il r2.1.2.2.2.2.1) (ck (bd f r2.1.2.2.2.2.1.length) (nq m [2,2,1] ((ix tCell r2.1.2.2.2.2.1 f).1=id) (cond (cond ((ix tCell r2.1.2.2.2.2.1 f).1=id) ((ix tCell r2.1.2.2.2.2.1 f).2.1=3) false) (ck (lm (List.length out+List.length ([(ix tInt r1 j,(ix tCell r2.1.2.2.2.2.1 f).2.2.1.2.2.1,())]:List aK.den))) (fz m (.slice aK) (out++[(ix tInt r1 j,(ix tCell r2.1.2.2.2.2.1 f).2.2.1.2.2.1,())]) (λC=>iN m K p l id r1 j r2 f C))) (iN m K p l id r1 j r2 f out)))) (fz m tInt (w64 (j+1)) (λJ=>r l id r1 out J))
def yo (m:Bool)(K:ca→Option g)(f:bI g)(l:(List tCommit.den))(id:Int):Option g:=ce m (.slice tInt) (Yh l) (Qk l) λr1=>f l id r1 [] 0
def iL (g:bI ca):Nat→iK ca:=lp (λ_ _ _ _ _ _ _=>none) λf=>pz false some f g
def iM:Nat→bI ca:=lp (λ_ _ _ _ _=>none) λf=>pA false some (iL f FU)
def pB (l:(List tCommit.den))(id:Int):Option ca:=yo false some (iM FU) l id
def Nm:Ent:=evE (.cons (.slice tCommit) (.cons tInt .unit)) dA (zero (.slice aK)) λx=>pB x.1 x.2.1
def wM:MS:=⟨0,[],[(0,.dat (.slice tCommit)),(1,.dat tInt),(5,.own aK 29),(13,.dat (.slice tInt)),(14,.dat tInt),(15,.dat tInt)]⟩
def wL:MS:=⟨0,[],[(0,.dat (.slice tCommit)),(1,.dat tInt),(5,.own aK 29),(7,.dat tInt),(13,.dat (.slice tInt)),(14,.dat tInt),(15,.dat tInt),(26,.dat (.slice tCell)),(27,.dat tInt),(28,.dat tInt)]⟩
def Np:Par:=⟨ji.tab,aE [(34,Yf),(35,Tk)],λ_=>look [(11,wL)],λ_=>look [(3,wM),(7,wL)]⟩
noncomputable def pC (f g:Nat)(p:List Nat):Sg→KT→Option AV:=xc (bN fi0 hs0 f 0) Np g f (sub (f10.body.getD .skip) p)
noncomputable def lY (f n:Nat):bI AV:=λl id r1 out g=>aW 0 wM (pC f 0 [1,1,0,1,0,0]) (am 0 (bc 0 none (pC f 0 [1,1,1]) Eg)) n ⟨mkE 52 [(0,.val (.slice tCommit) l),(1,.val tInt id),(5,.own 0 0 aK out),(13,.val (.slice tInt) r1),(14,.val tInt (il r1)),(15,.val tInt g)],mkH 1 [(0,.row aK 29 0)]⟩
noncomputable def qQ (f p n:Nat):iK AV:=λl id r1 g r2 out j=>aW 0 wL (pC f 0 [1,1,0,1,0,0,1,1,0,0,1,1,1,0,0]) (am 2 (am 1 (bc 0 none (pC f 0 [1,1,0,1,0,0,1,1,1]) (kLp 0 wM (pC f 0 [1,1,0,1,0,0]) (am 0 (bc 0 none (pC f 0 [1,1,1]) Eg)) p)))) n ⟨mkE 52 [(0,.val (.slice tCommit) l),(1,.val tInt id),(5,.own 0 0 aK out),(7,.val tInt (ix tInt r1 g)),(13,.val (.slice tInt) r1),(14,.val tInt (il r1)),(15,.val tInt g),(26,.val (.slice tCell) r2.1.2.2.2.2.1),(27,.val tInt (il r2.1.2.2.2.2.1)),(28,.val tInt j)],mkH 1 [(0,.row aK 29 0)]⟩
def QK (f g:Nat):lY f (g+1)=pA true (sm dA) (qQ f g f):=Φ
def QI (f g j:Nat):qQ f g (j+1)=pz true (sm dA) (qQ f g j) (lY f g):=Φ
def QJ (j:Nat){f:bI ca}(g:lY FU j=mp5 dA f):∀n,qQ FU j n=mp7 dA (iL f n):=co Φ λl _ h=>(QI FU j l).trans (by rw[h,g];funext _ _ _ _ _ _ _;simp only[pz,iN,ss])
def QL:∀n,lY FU n=mp5 dA (iM n):=co Φ λf _ h=>(QK FU f).trans (by rw[QJ f h FU];funext _ _ _ _ _;simp only[pA,iN,ss])
def YF:ai prog 10 (Nm):=evX func10 (S:=Np) gT (af ⟨Yd,acO,ans⟩) (tys:=[(.slice aK)]) (λf x=>yo true (sm dA) (lY f f) x.1 x.2.1) (λx=>by show _=Option.map dA _;rw[QL FU];simp only[yo,pB,iN,ss])
def Wy:Ent:=sp0 (.val .bool (RP))
abbrev ig (g:Type):=(List aK.den)→(List aK.den)→Int→Option g
def jD (m:Bool)(K:Bool→Option g)(f:ig g):ig g:=λr3 r4 i=>cond (i<il r3) (ck (bd i r3.length) (ck (bd i r4.length) (cond (!eqD aK (ix aK r3 i) (ix aK r4 i)) (K false) (fz m tInt (w64 (i+1)) (λj=>f r3 r4 j))))) (ce m .bool true RP (λr5=>K r5))
def qS (m:Bool)(K:Bool→Option g)(f:ig g)(first:Int)(l:(List bi.den))(id:Int):Option g:=cl m (.slice tCommit) (jI first l) λr1=>cl m tInt (mt r1 id) λr2=>cl m (.slice aK) (pB r1 r2) λr3=>cl m (.slice aK) (px r1 r2) λr4=>cond (!il r3=il r4) (K false) (f r3 r4 0)
def kC:Nat→ig Bool:=lp (λ_ _ _=>none) λf=>jD false some f
def gE (first:Int)(l:(List bi.den))(id:Int):Option Bool:=qS false some (kC FU) first l id
def Es:Ent:=evE (.cons tInt (.cons (.slice bi) (.cons tInt .unit))) aa (zero .bool) λx=>gE x.1 x.2.1 x.2.2.1
def yC:MS:=⟨0,[],[(9,.dat (.slice aK)),(10,.dat (.slice aK)),(11,.dat tInt)]⟩
def Et:Par:=⟨ji.tab,aE [(8,EE),(9,Ik),(10,Nm),(11,Ni),(12,Wy)],λ_=>look [],λ_=>look [(7,yC)]⟩
def QX:KT:=bw ji.tab [.tmp 6] [.bool]
noncomputable def Eu (f g:Nat)(p:List Nat):Sg→KT→Option AV:=xc (bN fi0 hs0 f 0) Et g f (sub (f3.body.getD .skip) p)
noncomputable def kB (f n:Nat):ig AV:=λr3 r4 i=>aW 0 yC (Eu f 0 [1,1,1,1,1,0,1,0,0]) (am 0 (bc 0 none (Eu f 0 [1,1,1,1,1,1]) QX)) n ⟨mkE 45 [(9,.val (.slice aK) r3),(10,.val (.slice aK) r4),(11,.val tInt i)],mkH 0 []⟩
def Kj (f g:Nat):kB f (g+1)=jD true (sm aa) (kB f g):=Φ
def Kk:∀n,kB FU n=mp3 aa (kC n):=co Φ λf _ h=>(Kj FU f).trans (by rw[h];funext _ _ _;simp only[jD,ss])
def QW:ai prog 3 (Es):=evX func3 (S:=Et) gT (af ⟨Q7,V7,YF,YE,Wx,ans⟩) (tys:=[.bool]) (λf x=>qS true (sm aa) (kB f f) x.1 x.2.1 x.2.2.1) (λx=>by show _=Option.map aa _;rw[Kk FU];simp only[qS,gE,ss])
end
abbrev cks (l:List Com):List CK:=l.map fW
variable{x:Int}{l P:List Com}{c:Com}{d:List Int}
def aeo (l:0≤x)(j:x<9223372036854775807):(Lit.int .i64 x).wf=true:=by have g:IntKind.min .i64 = -9223372036854775808:=rfl;have f:IntKind.max .i64=9223372036854775807:=rfl;show(decide (IntKind.min .i64≤x)&&decide (x≤IntKind.max .i64))=true;rw[g,f,κ,ρ,ρ];omega
def dW.wfN (h:dW x):(Lit.int .i64 x).wf=true:=aeo (by have:=h.1;omega) (by have:=h.2.1;omega)
def H0.good (h:H0 l):GoodK (cks l):=by
 refine⟨by have:=h.few;simp;omega,ajK.2 h.asc,λc g=>?_,λc g=>?_,λc g p j=>?_⟩;all_goals obtain⟨d,f,rfl⟩:=s_.1 g
 ·have:=h.par d f;show d.2.1.length≤512;omega
 ·exact(h.val d f).1.wfN
 ·exact((h.val d f).2 p j).wfN
def Ba (c:Com)(d:List Int)(C:c.2.1.length<1000000)(l:d.length<1000000):∀(n:Nat) (r p:List Int),c.2.1=p++r→r.length<n→Tot (qC n d c (p.length:Int)) λb=>b=r.all λx=>d.contains x
 |0,r,p,_,h=>Ω
 |n+1,r,p,e,h=>by
  have g:=Y' List.length e;rw[P']at g;show Tot (pe false some (qC n) d c p.length) _;simp only[pe,tt,il];rw[ap (n:=(p.length:Int)+1) Ω Ω];cases r with
  |nil=>
   have j:c.2.1.length=p.length:=by simpa using g
   exact⟨λh=>by simp[j]at h,λ_=>rfl⟩
  |cons x r=>
   have j:c.2.1.length=p.length+(r.length+1):=by simpa using g
   have J:ix tInt c.2.1 (p.length:Int)=x:=by rw[e];exact dh (t:=tInt) p x r
   rw[J];refine⟨λ_=>⟨aC Ω Ω,_,Cl d x l,λf=>?_,λf=>?_⟩,λh=>by simp[j]at h;omega⟩
   ·simp at f;simp[f]
   ·simp at f;have:=Ba c d C l n r (p++[x]) (by rw[e];simp) (by simp at h;omega);simpa[f]using this
def Hv (c:Com)(d:List Int)(g:c.2.1.length<1000000)(f:d.length<1000000):iH c d=some (c.2.1.all λx=>d.contains x):=by
 have:Tot (iH c d) λb=>b=c.2.1.all λx=>d.contains x:=by simp only[iH,xR];exact Ba c d g f FU c.2.1 [] rfl (by rw[bm];omega)
 obtain⟨r,e,rfl⟩:=this;exact e
def agE (f:d.length<1000000)(g:c.2.1.length<1000000):(bif gG d c.1 then true else !JA c d) = !zO d (fW c):=by unfold JA;rw[EJ _ _ f,Hv c d g f];show(bif _ then true else !(c.2.1.all λx=>d.contains x)) = !(!d.contains c.1&&c.2.1.all λx=>d.contains x);by_cases h:c.1∈d <;> simp[h]
def MC (h:∀c∈P,zO d (fW c)=false):(cks P).filter (zO d)=[]:=by rw[Y?];intro x f;obtain⟨c,g,rfl⟩:=s_.1 f;rw[h c g];simp
def UV {R:List Com}(h:∀c∈P,zO d (fW c)=false)(g:zO d (fW c)=true):∃f,rdF (cks (P++c::R)) d=c.1::f:=by refine⟨((cks R).filter (zO d)).map λc=>c.1, ?_⟩;unfold rdF;rw[show cks (P++c::R)=cks P++fW c::cks R by simp[cks],aiE,MC h,Z_ g];rfl
def HG (l:List Com)(r:H0 l)(d:List Int)(hd:d.length≤20)(k:dR (List Int))(Q:List Int→Prop)(hk:∀s J,rdF (cks l) d=s::J→Tot (k l (d++[s])) Q)(h0:rdF (cks l) d=[]→Q d):∀(n:Nat) (R P:List Com),l=P++R→R.length<n→(∀c∈P,zO d (fW c)=false)→Tot (eX k n l d P.length) Q
 |0,R,P,f,h2,_=>Ω
 |n+1,R,P,f,h2,h3=>by
  have hfew:=r.few;have hP:l.length=P.length+R.length:=by rw[f];simp
  show Tot (pg false some (eX k n) k l d P.length) _;simp only[pg,tt,il];rw[ap (n:=(P.length:Int)+1) Ω Ω];cases R with
  |nil=>
   have e:l=P:=by simpa using f
   have hq:¬(P.length:Int)<l.length:=by rw[e];omega
   simp only[hq,c?,Bool.false_and,E_];refine⟨aj λh=>(by cases h),aj λh=>(by cases h),aj λh=>(by cases h),aj λh=>(by cases h),aj λh=>(by cases h),λh=>(by cases h),λ_=>⟨λ_=>h0 ?_,λh=>?_⟩⟩
   ·unfold rdF;rw[e,MC h3];rfl
   ·rw[e]at h;simp at h
  |cons c R=>
   have hc:c∈l:=by rw[f];simp
   have j:(P.length:Int)<l.length:=by simp at hP;omega
   have ec:ix tCommit l (P.length:Int)=c:=by rw[f];exact dh (t:=tCommit) P c R
   have U:=r.par c hc;rw[ec];have C:bd (P.length:Int) l.length=true:=aC Ω j;have hr:Jz c d=true:=by unfold Jz;rw[Hv c d Ω Ω];rfl
   have p:=agE (c:=c) (d:=d) Ω Ω;simp only[j,p?,G'];rw[p];refine⟨aj λ_=>C,aj λ_=>re _ _ Ω,aj λ_=>C,aj λ_=>hr,aj λ_=>by simp[aL],λh=>?_,λh=>⟨λh'=>by simp at h';omega,λ_=>⟨C,fG Ξ, ?_⟩⟩⟩
   ·have:=HG l r d hd k Q hk h0 n R (P++[c]) (by rw[f];simp) (by simp at h2;omega) λx g=>by
     obtain g|g:=O'.1 g
     ·exact h3 x g
     ·rw[E'.1 g];simpa using h
    simpa using this
   ·obtain⟨J,T⟩:=UV (R:=R) h3 (show zO d (fW c)=true by simpa using h);rw[←f]at T;exact hk _ _ T
def U6 {z:dR (List Int)}(F n:Nat):lp z (λf=>gA false some (eX f F)) (n+1)=gA false some (eX (lp z (λf=>gA false some (eX f F)) n) F):=rfl
def MT (n:Nat):iJ (n+1)=gA false some (eX (iJ n) FU):=U6 FU n
def Be (l:List Com)(p:H0 l):∀(n k:Nat),k≤l.length→l.length-k<n→(cY (cks l) k []).length=k→Tot (iJ n l (cY (cks l) k [])) λr=>r=wH (cks l)
 |0,k,T,R,_=>Ω
 |n+1,k,T,R,h3=>by have C:=p.few;have J:(cks l).length=l.length:=o_ ..;rw[MT];simp only[gA];refine HG l p (cY (cks l) k []) Ω (iJ n) _ (λs U h=>?_) (λh=>(MX Ω h).symm) FU l [] rfl (by rw[bm];omega) (λc P=>by cases P);have j:=lF (cks l) k [];rw[h]at j;change cY (cks l) (k+1) []=cY (cks l) k []++[s]at j;have f:=Y' List.length j;rw[P',h3]at f;have g:=(ClK.take p.good.st (k+1)).len;rw[f]at g;rw[←j];exact Be l p n (k+1) (by simp at g;omega) (by simp at g;omega) (by rw[f];rfl)
def U7 (l:List Com)(f:H0 l):Tot (ph l) λr=>r=wH (cks l):=by have g:=f.few;simp only[ph,yc];exact Be l f FU 0 Ω (by rw[bm];omega) rfl
def ES (l:List Com)(f:H0 l)(x:Int):∀(n:Nat) (R P:List Com),l=P++R→R.length<n→Tot (uX n x l P.length) λr=>∀c,eC R x=some c→r=(c,true,())
 |0,R,P,g,U=>Ω
 |n+1,R,P,g,U=>by
  have T:=f.few;have p:l.length=P.length+R.length:=by rw[g];simp
  show Tot (tv false some (uX n) x l P.length) _;simp only[tv,tt,il];rw[ap (n:=(P.length:Int)+1) Ω Ω];cases R with
  |nil=>exact⟨λh=>by simp at h p;omega,λ_ c h=>by cases h⟩
  |cons c R=>
   have j:c∈l:=by rw[g];simp
   have ec:ix tCommit l (P.length:Int)=c:=by rw[g];exact dh (t:=tCommit) P c R
   have J:=f.par c j;have C:=f.pic c j;have hw:(ws c).length≤500000:=Θ (k7 j) f.sum;rw[ec];refine⟨λ_=>⟨aC Ω (by simp at p;omega),λh=>⟨H_ Ω,H_ Ω,H_ (by show(ws c).length≤_;omega),λc' h'=>?_⟩,λh=>?_⟩,λh=>by simp at h p;omega⟩
   ·simp only[eC,ajl,h]at h';cases h';rfl
   ·have:=ES l f x n R (P++[c]) (by rw[g];simp) (by simp at U;omega);rw[show eC (c::R) x=eC R x by simp only[eC,ajl,h]];simpa using this
def Zp (l:List Com)(f:H0 l)(x:Int)(c:Com)(h:eC l x=some c):pR l x=some (c,true,()):=by
 have g:=f.few;have:Tot (pR l x) λr=>∀c,eC l x=some c→r=(c,true,()):=by simp only[pR,Cm];exact ES l f x FU l [] rfl (by rw[bm];omega)
 obtain⟨r,e,j⟩:=this;rw[e,j c h]
def Zo (g:l.Pairwise λa b=>a.1<b.1)(f:c∈l):eC l c.1=some c:=by
 induction l with
 |nil=>cases f
 |cons d l p=>
  have j:=j_.1 g;unfold eC;rw[ajl];obtain rfl|f:=C'.1 f
  ·simp
  ·have:¬d.1=c.1:=ajO (j.1 c f);simp only[this,c?];exact p j.2 f
def isN (id:Int)(x:Cel):Bool:=x.1=id&&x.2.1=3
def nmW (id:Int)(c:Com):List aK.den:=((ws c).filter (isN id)).map λx=>(c.1,x.2.2.1.2.2.1,())
def nmS (l:List Com)(id s:Int):List aK.den:=match eC l s with
 |some c=>nmW id c
 |none=>[]
def N7 {id:Int}:∀{w:List Cel} {x:Cel},kM w→x∈w→x.1=id→x.2.1=3→w.filter (isN id)=[x]
 |[],_,_,h,_,_=>by cases h
 |d::w,x,ho,h,e1,e2=>by
  obtain⟨j,p⟩:=j_.1 ho;obtain rfl|h:=C'.1 h
  ·rw[Z_ (by simp[isN,e1,e2]),Y?.2 λy l f=>?_];have g:=j y l;simp only[isN,κ,ρ]at f;rw[f.1,f.2,e1,e2,kL]at g;omega
  ·rw[k? λf=>?_]
   ·exact N7 p h e1 e2
   have g:=j x h;simp only[isN,κ,ρ]at f;rw[f.1,f.2,e1,e2,kL]at g;omega
def xk (w:List Cel)(id f:Int)(p:w.length<1000000):∀(n:Nat) (i:Int), -1≤i→i<w.length→i+1<n→Tot (fh n w id f i) λr=>r.2.1=true→∃c∈w,(c.1=id∧c.2.1=f)∧r.1=c.2.2.1
 |0,i,C,j,h=>Ω
 |n+1,i,C,j,h=>by
  show Tot (eG false some (fh n) w id f i) _;simp only[eG,tt];refine⟨λg=>?_,λg h=>(nomatch h)⟩;have g:0≤i:=by simpa using g
  refine⟨aC g j,aj λ_=>aC g j,λl=>⟨aC g j,λ_=>?_⟩,λl=>?_⟩
  ·simp only[x?,κ,ρ]at l;exact⟨_,iO (t:=tCell) g j,l,rfl⟩
  ·rw[ap Ω Ω];exact xk w id f p n (i-1) Ω Ω Ω
def AG (c:Com)(id:Int)(C:kM (ws c))(g:(ws c).length<1000000):Tot (b7 (ws c) id 3) λr=>nmW id c=(bif r.2.1 then[(c.1,r.1.2.2.1,())]else[]):=by
 have J:Tot (b7 (ws c) id 3) λr=>r.2.1=true→∃x∈ws c,(x.1=id∧x.2.1=3)∧r.1=x.2.2.1:=by simp only[b7,k8,tt,il];rw[ap Ω Ω];exact xk (ws c) id 3 g FU _ Ω Ω (by rw[bm];omega)
 refine((gL (ws c) id 3 g).and J).mono λr j=>?_;cases f:r.2.1 with
 |true =>obtain⟨x,hx,⟨R,P⟩,e3⟩:=j.2 f;unfold nmW;rw[N7 C hx R P,e3];rfl
 |false=>
  unfold nmW;rw[Y?.2 λy p l=>?_]
  ·rfl
  simp only[isN,κ,ρ]at l;rw[j.1.2 ⟨y,p,l⟩]at f;cases f
def Kb (id:Int)(c:Com)(g:kM (ws c))(f:(ws c).length<1000000):(nmW id c).length≤1:=by obtain⟨r,_,h⟩:=AG c id g f;rw[h];cases r.2.1 <;> simp
def Fnd (l:List Com)(s:Int):Prop:=∃c∈l,c.1=s∧eC l s=some c
def Bg (l:List Com)(p:H0 l)(id:Int)(j:List Int)(T:j.length≤20)(hf:∀s∈j,Fnd l s):∀(n:Nat) (R P:List Int) (out:List aK.den),j=P++R→R.length<n→out.length≤P.length→Tot (lX n l id j out P.length) λr=>r=out++R.flatMap (nmS l id)
 |0,R,P,out,C,h2,h3=>Ω
 |n+1,R,P,out,C,h2,h3=>by
  have hfew:=p.few;have J:j.length=P.length+R.length:=by rw[C];simp
  show Tot (pu false some (lX n) l id j out P.length) _;simp only[pu,pw,tt,il];rw[ap (n:=(P.length:Int)+1) Ω Ω];cases R with
  |nil=>exact⟨λh=>by simp at h J;omega,λ_=>by simp⟩
  |cons s R=>
   obtain⟨c,U,rfl,hs⟩:=hf s (by rw[C];simp);have es:ix tInt j (P.length:Int)=c.1:=by rw[C];exact dh (t:=tInt) P c.1 R
   have hw:(ws c).length≤500000:=Θ (k7 U) p.sum;rw[es];have g:=Am l c.1 Ω;rw[hs]at g;have next:∀f:List aK.den,f=out++nmW id c→Tot (lX n l id j f ((P.length:Int)+1)) λr=>r=out++(c.1::R).flatMap (nmS l id):=λf ho=>by
    have hlen:=Kb id c (p.ord c U) Ω;have:=Bg l p id j T hf n R (P++[c.1]) f (by rw[C];simp) (by simp at h2;omega) (by rw[ho];simp;omega);have en:nmS l id c.1=nmW id c:=by unfold nmS;rw[hs]
    rw[aiL,en,←List.append_assoc,←ho];simpa using this
   refine⟨λ_=>⟨aC Ω (by simp at J;omega),_,g,(AG c id (p.ord c U) Ω).mono λr hr=>⟨λhb=>⟨fG (by simp at J⊢;omega),next _ ?_⟩,λhb=>next _ ?_⟩⟩,λh=>by simp at h J;omega⟩
   ·rw[hr,hb];rfl
   ·rw[hr,hb];simp
def HR (l:List Com)(id:Int)(g:List Int)(t:Int)(c:Com)(hw:(ws c).length<1000000)(U:ix tInt g t=c.1)(k:bI ca)(Q:ca→Prop):∀(n:Nat) (r p:List Cel) (out:List aK.den),ws c=p++r→r.length<n→out.length+r.length≤2000000→Tot (k l id g (out++(r.filter (isN id)).map λx=>(c.1,x.2.2.1.2.2.1,())) (w64 (t+1))) Q→Tot (iL k n l id g t (c,true,()) out p.length) Q
 |0,r,p,out,J,h2,R,j=>Ω
 |n+1,r,p,out,J,h2,R,j=>by
  have P:(ws c).length=p.length+r.length:=by rw[J];simp
  show Tot (pz false some (iL k n) k l id g t (c,true,()) out p.length) _;simp only[pz,iN,tt,il];rw[ap (n:=(p.length:Int)+1) Ω Ω];cases r with
  |nil=>
   refine⟨λh=>?_,λ_=>by simpa using j⟩;have h:(p.length:Int)<(ws c).length:=by simpa using h
   simp at P;omega
  |cons d r=>
   have ed:ix tCell (ws c) (p.length:Int)=d:=by rw[J];exact dh (t:=tCell) p d r
   have T:ix tCell c.2.2.2.2.1 (p.length:Int)=d:=ed;rw[T,U];have next:∀f:List aK.den,f.length≤out.length+1→Tot (k l id g (f++(r.filter (isN id)).map λx=>(c.1,x.2.2.1.2.2.1,())) (w64 (t+1))) Q→Tot (iL k n l id g t (c,true,()) f ((p.length:Int)+1)) Q:=λf ho h=>by have:=HR l id g t c hw U k Q n r (p++[d]) f (by rw[J];simp) (by simp at h2;omega) (by simp at R;omega) h;simpa using this
   refine⟨λ_=>⟨aC Ω (by show(p.length:Int)<(ws c).length;simp at P;omega),λC=>⟨fG (by simp at R⊢;omega),next _ Ψ ?_⟩,λC=>next _ Ω ?_⟩,λh=>?_⟩
   ·simp only[x?,κ,ρ]at C;rw[Z_ (by simp[isN,C])]at j;simpa using j
   ·simp only[x?]at C;rw[k? (by rw[show isN id d=false from C];simp)]at j;exact j
   ·have h:¬(p.length:Int)<(ws c).length:=by simpa using h
    simp at P;omega
def Bh (l:List Com)(g:H0 l)(id:Int)(f:List Int)(C:f.length≤20)(hf:∀s∈f,Fnd l s):∀(n:Nat) (R P:List Int) (out:List aK.den),f=P++R→R.length<n→out.length≤P.length→Tot (iM n l id f out P.length) λr=>r=out++R.flatMap (nmS l id)
 |0,R,P,out,j,h2,h3=>Ω
 |n+1,R,P,out,j,h2,h3=>by
  have U:=g.few;have p:f.length=P.length+R.length:=by rw[j];simp
  show Tot (pA false some (iL (iM n) FU) l id f out P.length) _;simp only[pA,tt,il];cases R with
  |nil=>exact⟨λh=>by simp at h p;omega,λ_=>by simp⟩
  |cons s R=>
   obtain⟨c,hc,rfl,J⟩:=hf s (by rw[j];simp);have es:ix tInt f (P.length:Int)=c.1:=by rw[j];exact dh (t:=tInt) P c.1 R
   have hw:(ws c).length≤500000:=Θ (k7 hc) g.sum;rw[es];have T:=Kb id c (g.ord c hc) Ω;refine⟨λ_=>⟨aC Ω (by simp at p;omega),_,Zp l g c.1 c J,HR l id f P.length c Ω es (iM n) _ FU (ws c) [] out rfl (by rw[bm];omega) (by simp at p;omega) ?_⟩,λh=>by simp at h p;omega⟩;rw[ap (n:=(P.length:Int)+1) Ω Ω];have:=Bh l g id f C hf n R (P++[c.1]) (out++nmW id c) (by rw[j];simp) (by simp at h2;omega) Ξ;have en:nmS l id c.1=nmW id c:=by unfold nmS;rw[J]
   rw[aiL,en,←List.append_assoc];show Tot (iM n l id f (out++nmW id c) ((P.length:Int)+1)) _;simpa using this
def JT (f:H0 l):(wH (cks l)).length≤20∧∀s∈wH (cks l),Fnd l s:=by have h:=ClK.take f.good.st (cks l).length;refine⟨Θ h.len (by rw[o_];exact f.few),λs p=>?_⟩;obtain⟨x,j,rfl⟩:=s_.1 (h.sub s p);obtain⟨c,g,rfl⟩:=s_.1 j;exact⟨c,g,rfl,Zo f.asc g⟩
def nms (l:List Com)(id:Int):List aK.den:=(wH (cks l)).flatMap (nmS l id)
def Vo (l:List Com)(f:H0 l)(id:Int):Tot (px l id) λr=>r=nms l id:=by obtain⟨g,p⟩:=JT f;simp only[px,yn,tt];refine(U7 l f).mono λr j=>?_;subst j;exact(Bg l f id _ g p FU _ [] [] rfl (U? g (by rw[bm];omega)) (ζ _)).mono λ_ h=>h
def Vp (l:List Com)(f:H0 l)(id:Int):Tot (pB l id) λr=>r=nms l id:=by obtain⟨g,j⟩:=JT f;simp only[pB,yo,tt];refine⟨abP f.good, ?_⟩;exact(Bh l f id _ g j FU _ [] [] rfl (U? g (by rw[bm];omega)) (ζ _)).mono λ_ h=>h
def acr (l:List Com)(g:H0 l)(id:Int):(nms l id).length≤20:=by
 obtain⟨T,J⟩:=JT g;unfold nms;generalize wH (cks l)=f at *;have:∀f:List Int,(∀s∈f,Fnd l s)→(f.flatMap (nmS l id)).length≤f.length:=λf=>by
  induction f with
  |nil=>intro _;simp
  |cons s f p=>
   intro h;have i:=p λx r=>h x (J' _ r);obtain⟨c,j,_,C⟩:=h s (S' ..);have R:(ws c).length≤500000:=Θ (k7 j) g.sum;have P:nmS l id s=nmW id c:=by unfold nmS;rw[C]
   have:=Kb id c (g.ord c j) Ω;rw[aiL,P',P,r_];omega
 have:=this f J;omega
def Od (h:HisP 9 l)(x:Int):Tot (mt l x) λ_=>True:=by have j:=h.h0;have p:cW l≤108021:=Θ h.sum Ϛ;simp only[mt,uZ,kJ,nO,tt];refine(bU x 23 Ω Ω).mono λ_ _ _=>(adF l j).mono λs f=>(di (f.st1 j) 0).mono λr C=>⟨by decide, ?_⟩;obtain⟨_,_,_,_,h⟩:=id f;have g:=h.len;exact(iI r _ Ω).mono λ_ _=>trivial
def eqN (x:aK.den):eqD aK x x=true:=by simp[eqD]
def vW (N:List aK.den)(j:N.length≤20):∀(n:Nat) (i:Int),0≤i→i≤N.length→N.length-i<n→Tot (kC n N N i) λr=>r=true
 |0,i,g,l,h=>Ω
 |n+1,i,g,l,h=>by
  show Tot (jD false some (kC n) N N i) _;simp only[jD,tt,il];rw[ap (n:=i+1) Ω Ω];refine⟨λf=>?_,λ_=>rfl⟩;have f:i<N.length:=by simpa using f
  exact⟨aC g f,aC g f,λh=>(by rw[eqN]at h;cases h),λ_=>vW N j n (i+1) Ω Ω Ω⟩
def Ki (first:Int)(l:List bi.den)(id:Int):Tot (gE first l id) λr=>r=true:=by simp only[gE,qS,tt,il];refine(Kt first l).mono λh f=>(Od f id).mono λx _=>(Vp h f.h0 x).mono λa p=>(Vo h f.h0 x).mono λb j=>?_;subst p j;have g:=acr h f.h0 x;exact⟨λh=>by simp at h,λ_=>vW _ g FU 0 Ω Ω (by rw[bm];omega)⟩
