/- Closed runs. -/
import Derived.Test.YthfdnklcgfkjoaaGreatDoorCloZ
set_option linter.all false
namespace Go.Proofs.YthfdnklcgfkjoaaGreatDoor.Clo
open Go Go.RowKit
variable [SymVal]
def BT (B g:Nat)(C:Gx)(j:Pos→EO)(T:World)(f:Nat)(x:Ex)(e:Env)(h:Pos→EO):Exit→Act→World→Prop
 |.normal,a,w=>x = .normal∧Rl B g C j T f e h a w
 |.exit id,a,w=>x = .exit id∧Rl B g C j T f e h a w
 |.ret,a,w=>x = .ret∧Rl B g C j T f e h a w
 |_,_,_=>False
def bV (f:Option Nat)(c:Code):Prop:=f=none∨cm c=true
variable{ro:Option Nat}
def bV.left {p q:Bool}(h:ro=none∨(p&&q)=true):ro=none∨p=true:=h.imp id λh=>(O?.1 h).1
def bV.right {p q:Bool}(h:ro=none∨(p&&q)=true):ro=none∨q=true:=h.imp id λh=>(O?.1 h).2
def bV.ops {i:Nat}{f:Array Oper}{g:Bool}(h:bV ro (.region i f g)):∀o∈f.toList,gc ro o:=λo j=>h.imp id λh c e=>by have:=d_.1 h o j;rw[e]at this;cases this
def IY (ro:Option Nat)(T:World):Prop:=∀l,ro=some l→∃r,T.heap[l]? = some (.loop r)
def IY.more {w f:World}(h:IY ro w)(p:Kp w f):IY ro f:=λl j=>by obtain⟨r,g⟩:=h l j;exact⟨r,p.keep _ _ g rfl⟩
def sQ (P:Program)(J:Glt)(B:Nat)(ck:Callk)(U:List Lq)(f g:Nat)(c:Code):Prop :=
 ∀(ro:Option Nat) (n j:Nat) (W:W0) (C:Gx) (l:Pos→EO) (T:World),Inv B W C l T→GlOk J P B W→Ctx U C T→IY ro T→bV ro c→j≤T.heap.size→∀(b:HP) (e:Env) (d:DM) (R:Pos) (a:Act) (w:World) (x:Ex) (p:Env) (r:DM) (n':Pos),
  exec ck f (cC P J g c) b e d R = .ok x p r n'→Rl B j C l T g e (HP.ov b d).get a w→c.wpIn (RF ro) n P (BT B j C l T g x p (HP.ov b r).get) a w
section
variable {P:Program}{Gl:Glt}{B:Nat}{ck:Callk}{U:List Lq}{fuel nt:Nat}
def aa0 {p:Gx}{h:Pos→EO}{w:World}{k:Pos}(_:i5 (h k)=false):cG B p h w p (upd h k .dead) w:=by
 refine⟨Gx.le.refl _,λW j=>⟨j.below,j.kp,j.le,λq f=>?_,j.size,λq=>?_,j.sep⟩,λq f=>?_⟩
 ·by_cases e:k=q
  ·subst e;rw[bk]at f;cases f
  ·rw[bO _ _ e]at f;exact j.res q f
 ·by_cases e:k=q
  ·subst e;rw[bk];exact λg l r=>j.blk r
  ·rw[bO _ _ e];exact j.obj q
 ·by_cases e:k=q
  ·subst e;rw[bk]at f;cases f
  ·rwa[bO _ _ e]at f
def aiN (b:HP):(HP.ov b .leaf).get=b.get:=rfl
def LR {y:ME}:∀{f:List ME},y∈f→y.born∈dN f
 |[],h=>by cases h
 |z::f,h=>by
  simp only[dN];obtain rfl|h:=N'.1 h
  ·exact c_ ..
  ·exact C' _ (LR h)
def akp {f seen:List Nat}{c:Nat}(j:c∈f)(g:seen.toArray.contains c=false):Ir f (seen++[c]).toArray<Ir f seen.toArray:=by
 have e:(f.filter λb=>!(seen++[c]).toArray.contains b)=(f.filter λb=>!seen.toArray.contains b).filter λb=>decide (b≠c):=by rw[p?];apply w?;intro b _;by_cases h:b=c <;> simp[h]
 unfold Ir;rw[e];refine K?.2 ⟨c, ?_,Ψ⟩;rw[m?];exact⟨j,by rw[g];rfl⟩
def Qd {id:Nat}{r:Array Oper}{y:Code}{x:Src}{dst:Option Pos}{l:List OP}(hco:nF P Gl nt r.toList r.toList = .nxt x dst::l)(ckok:CkOk P Gl B ck U)(Sy:sQ P Gl B ck U fuel nt y)
  {ro:Option Nat} {n lo:Nat} {W:W0} {C:Gx} {h0:Pos→EO} {T:World} (hI0:Inv B W C h0 T) (hG:GlOk Gl P B W) (hcx:Ctx U C T) (hro:IY ro T) (hnd:bV ro (.seq (.region id r false) y)) (hlo:lo≤T.heap.size)
  {b:HP} {e0:Env} {d:DM} {n1:Pos} {R m:Pos} {g f sp0 clock:Nat} {es:List ME} (hx:bA e0 x = .pv (.one (.ptr R g 0))) (hit0:(HP.ov b d).get R = .mit (some m) f [] sp0) (hm0:(HP.ov b d).get m = .map es clock) (hold:es.all (λx=>Nat.blt x.born f)=true) (hclk:f≤clock)
  (heach:Sn (λy'=>xA (bc ck (.ov b (gz d R (.mitU m f (dN es) none))) l (bn e0 dst (Px y'.key y'.val)) (gz .leaf R (.mitU m f (dN es) (some (y'.born,clock)))) n1) (exec ck fuel (cC P Gl nt y) (.ov b (gz d R (.mitU m f (dN es) none)))))
         (λe' d'=>abD R (HP.ov b (gz d R (.mitU m f (dN es) none))).get d' (λp=>p)&&I7 e0 e'&&WR m f (dN es) ((HP.ov (.ov b (gz d R (.mitU m f (dN es) none))) d').get R)) es=true)
  {X:Ex} {e':Env} {d':DM} {n':Pos} (hfin:xA (bc ck b l (bn e0 dst Fu) (gz d R .dead) n1) (exec ck fuel (cC P Gl nt y) b) = .ok X e' d' n') (hX:X ≠ .normal) :
  ∀(j:Nat) (seen:List Nat) (sp:Nat) (a:Act) (w:World),f≤sp→Ir (dN es) seen.toArray<j→Rl B lo C h0 T nt e0 (upd (HP.ov b d).get R (.mit (some m) f seen sp)) a w→Code.roundsIn (RF ro) n P (.seq (.region id r false) y) (BT B lo C h0 T nt X e' (HP.ov b d').get) j a w:=by
 obtain⟨o0,aQ,hL⟩:∃o0 aQ,r.toList=o0::aQ:=by
  cases hL:r.toList with
  |nil=>rw[hL]at hco;simp only[nF]at hco;cases hco
  |cons o0 aQ=>exact⟨o0,aQ,rfl⟩
 have hco':=hco;rw[show nF P Gl nt r.toList r.toList=nF P Gl nt r.toList (o0::aQ) from C_ (nF P Gl nt r.toList) hL]at hco';simp[nF]at hco';obtain⟨hc0,hcr⟩:=hco';have hoi:r[0]? = some o0:=by rw[←Array.getElem?_toList,hL];rfl
 have hsz:0<r.size:=by have:=C_ List.length hL;simp at this;omega
 have hdrop:r.toList.drop 1=aQ:=by rw[hL];rfl
 have hno:gc ro o0:=(bV.ops (bV.left hnd)) o0 (by rw[hL];exact c_ ..);obtain⟨itop,hop,hxe,hdst,hg⟩:=OB hc0;have hmit:m≠R:=λe=>by rw[e,hit0]at hm0;cases hm0
 intro j;induction j with
 |zero=>exact λseen sp a w hsp hcnt hr=>Ω
 |succ j ih=>
   intro seen sp a w hsp hcnt hr;rw[roundsIn_succ];refine wpIn_seq (wpIn_region ?_);rw[L?,show r.size=(r.size-1)+1 by omega,Y_,wpOpsIn_cons];obtain⟨φ,hs,hE⟩:=hr.ex;have hI:=hs.2.1 _ hI0;unfold wpOpIn;simp[hoi];rw[β (by simp[Region.wanted,hg])];refine xL hno ?_;have hv:=ny hE itop;rw[←hxe,hx]at hv;refine ZZ hI hop hv (bk _ _ _) ((bO _ _ λe=>hmit e.symm).trans hm0) hold hsp (λv hv=>?_) (λy0 hy hnb v w1 hv hst=>?_)
   ·have hst:cG B φ (upd (HP.ov b d).get R (.mit (some m) f seen sp)) w φ (HP.ov b (gz d R .dead)).get w:=by
     have e:(HP.ov b (gz d R .dead)).get=upd (upd (HP.ov b d).get R (.mit (some m) f seen sp)) R .dead:=by rw[HP.get_set,vC]
     rw[e];exact aa0 (by rw[bk];rfl)
    have hr':=hr.step hI0 hs hE hst hdst hv;unfold xA at hfin;split at hfin
    ·rename_i e1 d1 n2 hrun;refine bJ (n:=n) hI0 hG ckok hcx (bV.ops (bV.left hnd)) (λa' w' hr2=>?_) aQ 1 _ _ n1 _ _ hdrop (by rw[hcr];exact hrun) hr';refine wpIn_mono (Sy ro n lo W C h0 T hI0 hG hcx hro (bV.right hnd) hlo b e1 d1 n2 a' w' X e' d' n' hfin hr2) λex a3 w3 hn=>?_;cases ex with
     |normal=>exact(hX hn.1).elim
     |exit _=>exact hn
     |ret=>exact hn
     |goto _=>exact hn
     |panic _=>exact hn
     |outgrown=>exact hn
    ·cases hfin
   ·
    obtain⟨e1,d1,n2,hf,hok⟩:=Ls heach y0 hy;simp at hok;obtain⟨⟨hall,hsub⟩,hsame⟩:=hok;rw[vC]at hst;have hs2:=hs.trans hst;have hI2:=hs2.2.1 _ hI0;have hob:=hI2.obj R;rw[bk]at hob;obtain⟨g1,li,q1,q2,lm,q3,q4⟩:=hob;generalize hn0:Ir (dN es) (seen++[y0.born]).toArray+1=n0;have hU:=toU (bs:=dN es) hI2 (bk _ _ _) hclk;rw[vC,hn0]at hU;have eH:(HP.ov (.ov b (gz d R (.mitU m f (dN es) none))) (gz .leaf R (.mitU m f (dN es) (some (y0.born,clock))))).get=upd (HP.ov b d).get R (.mitU m f (dN es) (some (y0.born,clock))):=by rw[HP.get_set,aiN,HP.get_set,vC]
    obtain⟨p1,p2⟩:=eL (hE.mono hst.1) hr.sz hdst hv;obtain⟨ms,m1,m2,m3⟩:=hr.df;have hKp:=(hst.2.1 _ hI.self).kp;have hr1:Rl B lo (φ.setMu R n0) (upd (HP.ov b d).get R (.mitU m f (dN es) (some (y0.born,clock)))) w1 nt (bn e0 dst (Px y0.key y0.val)) (HP.ov (.ov b (gz d R (.mitU m f (dN es) none))) (gz .leaf R (.mitU m f (dN es) (some (y0.born,clock))))).get (a.put o0.dst v) w1:=by rw[eH];refine⟨⟨_,cG.refl,alD p1⟩,p2,ms, ?_,m2,λD hD=>⟨(m3 D hD).1,hKp.keep _ _ (m3 D hD).2 rfl⟩⟩;cases o0.dst <;> exact m1
    have hG1:GlOk Gl P B ⟨w1,φ.setMu R n0⟩:=hG.more hI2;have hcx1:Ctx U (φ.setMu R n0) w1:=λq hq=>by obtain⟨z1,z2,z3⟩:=(hcx.more hI0 hs2) q hq;exact⟨z1,z2,alD z3⟩
    have hro1:IY ro w1:=hro.more (hs2.2.1 _ hI0.self).kp;unfold xA at hf;split at hf
    ·rename_i e2 d2 n3 hrun;refine bJ (n:=n) hU hG1 ckok hcx1 (bV.ops (bV.left hnd)) (λa' w' hr2=>?_) aQ 1 _ _ n1 _ _ hdrop (by rw[hcr];exact hrun) hr1;refine wpIn_mono (Sy ro n lo _ _ _ _ hU hG1 hcx1 hro1 (bV.right hnd) (υ hlo (hs2.2.1 _ hI0.self).below.size) _ e2 d2 n3 a' w' .normal e1 d1 n2 hf hr2) λex a3 w3 hn=>?_;cases ex with
     |exit _=>exact(by cases hn.1)
     |ret=>exact(by cases hn.1)
     |goto _=>exact hn.elim
     |panic _=>exact hn.elim
     |outgrown=>exact hn.elim
     |normal=>
      obtain⟨_,hr3⟩:=hn;obtain⟨ψ,hs3,hE3⟩:=hr3.ex;have J:=hs3.2.1 _ hU;obtain⟨seen',sp',f1,f2,f3⟩:=forget (h:=upd (HP.ov b d).get R (.mit (some m) f (seen++[y0.born]) clock)) ⟨lm,q3⟩ ⟨li,q1⟩ g1 J hs3.1 (λk hk=>by
       rw[bO _ _ (λe=>hk e.symm)];cases hd:PM.get none d1 k with
       |none =>refine .inl ?_;simp[HP.get,hd,gz,PM.get_set];rw[bO _ _ (λe=>hk e.symm)]
       |some o=>
        refine .inr ?_;obtain h1|h1:=IS hall k o hd
        ·rw[HP.get_set,bO _ _ (λe=>hk e.symm)]at h1;exact h1
        ·exact(hk h1).elim) (Uh hsame)
      refine ih seen' sp' a3 w3 f1 ?_ ⟨⟨φ,⟨hs.1,λW hW=>?_,λk hk=>?_⟩, ?_⟩,hr3.sz,hr3.df⟩
      ·
       have hlt:Ir (dN es) (seen++[y0.born]).toArray<Ir (dN es) seen.toArray:=akp (LR hy) hnb;omega
      ·have:=f3 W (hs2.2.1 _ hW);rwa[vC]at this
      ·refine hs.2.2 k ?_;by_cases e:R=k
       ·subst e;rw[bk]at hk⊢;exact hk
       ·rw[bO _ _ e]at hk⊢;exact hk
      ·exact ER.back (φ:=φ) (ψ:=ψ) (λk g l h=>hs3.1.loc k g l h) (λk v h=>hs3.1.val k v h) hE hE3 hsub
    ·cases hf
end
open Go Go.RowKit
variable [SymVal]
def arc (Q:Exit→Act→World→Prop):Exit→Act→World→Prop
 |.goto _,_,_=>False
 |e,a,w=>Q e a w
def xq {F:Fence}{n:Nat}{P:Program}{Q:Exit→Act→World→Prop}{a:Act}{w:World}{c:Code}(h:c.wpIn F n P (arc Q) a w):(Code.scope c).wpIn F n P Q a w:=by
 intro b k C R hb U;have s1:step P (lone (b.atR a (.code (.scope c)::k)) C w) = .next (lone (b.atR a (.code c :: .inScope c::k)) C w):=step_lone_go (by simp[stepG,stepG.exec,Frame.atR])
 have s2:∀(a:Act) (w:World),step P (lone (b.atR a (.inScope c::k)) C w) = .next (lone (b.atR a k) C w):=λa w=>step_lone_go (by simp[stepG,stepG.exec,Frame.atR])
 have r:(lone (b.atR a (.code (.scope c)::k)) C w).fenced P F:=fenced_calm hb U rfl;obtain⟨e,j,g,p,f⟩:=h b (.inScope c::k) C R hb U;cases e with
 |normal=>exact⟨.normal,j,g,p,.head r s1 (StepsIn.trans f (.one (fenced_calm hb U rfl) (s2 _ _)))⟩
 |exit id=>
  have hx:exitTo id (.inScope c::k)=exitTo id k:=by simp[exitTo]
  exact⟨.exit id,j,g,p,λk' hk=>.head r s1 (f.1 k' (by rw[hx];exact hk)),
   λT hk=>let ⟨J,h1,h2⟩:=f.2 T (by rw[hx];exact hk);⟨J,h1,.head r s1 h2⟩⟩
 |goto l=>exact p.elim
 |ret=>exact⟨.ret,j,g,p,.of_steps (.one r s1) f⟩
 |panic ch=>exact⟨.panic ch,j,g,p,.of_steps (.one r s1) f⟩
 |outgrown=>exact⟨.outgrown,j,g,p,.of_steps (.one r s1) f⟩
section
variable {P:Program}{Gl:Glt}{B lo:Nat}{ck:Callk}{U:List Lq}{fuel nt:Nat}
variable{w:World}{φ:Gx}{L:Nat}
def pI (fn:FuncId)(tmps:Array Value)(ps:Array Tmp)(assign body:Code){ro:Option Nat}(p:∀l,ro=some l→∃r,w.heap[l]? = some (.loop r)) :
  ∃(l:Nat) (mark:List Deferred) (f:World) (D:Nat),(Instr.enterLoop fn tmps ps assign body ro).run P w = .ok (l,mark) f∧w.grownBy f none∧w.heap.size≤l∧f.drawn=w.drawn ∧
   f.heap[l]? = some (.loop { state :=.ready,pending:=none,fn,tmps,params:=ps,assign,body,defers:=D }) ∧
   ∃j:List Nat,mark=j.map (λD=>{ target :=.collected D,args :=#[] })∧j.Nodup∧∀D∈j,w.heap.size≤D∧D≠l∧f.heap[D]? = some (.deferred (some [])):=by
 cases ro with
 |none=>
  refine⟨_,_,_,w.heap.size,run_enterLoop_outer fn tmps ps assign body,(O' w _ none).trans (O' _ _ none),Ω,rfl, ?_,[w.heap.size],rfl,Ψ,λD g=>?_⟩
  ·have:=World.alloc_heap_new (w.alloc (.deferred (some []))) (.loop { state :=.ready,pending:=none,fn,tmps,params:=ps,assign,body,defers:=w.heap.size });rw[asq]at this;exact this
  ·simp only[F']at g;subst g;refine⟨δ _,Ω, ?_⟩;rw[Below.heap_alloc _ _ _ (by rw[asq];omega)];exact World.alloc_heap_new _ _
 |some C =>obtain⟨r0,J⟩:=p C rfl;refine⟨w.heap.size,[],w.alloc (.loop { state :=.ready,pending:=none,fn,tmps,params:=ps,assign,body,defers:=r0.defers }),r0.defers, ?_,O' w _ none,δ _,rfl,World.alloc_heap_new _ _,[],rfl,Ψ,λD g=>by cases g⟩;unfold Instr.enterLoop;simp[ν,run_getLoop J,run_newObj_alloc,Z']
def ux {c:Code}(Sc:sQ P Gl B ck U fuel nt c){ro:Option Nat}{n:Nat}{W:W0}{C:Gx}{h0:Pos→EO}{T:World}(R:Inv B W C h0 T)(hG:GlOk Gl P B W)(J:Ctx U C T)(l:IY ro T)(p:bV ro c)(r:lo≤T.heap.size){b:HP}:∀(j:Nat) (e:Env) (d:DM) (n1:Pos) (a:Act) (w:World) (x:Ex) (e':Env) (d':DM) (n':Pos),
  qH (exec ck fuel (cC P Gl nt c) b) j e d n1 = .ok x e' d' n'→Rl B lo C h0 T nt e (HP.ov b d).get a w→Code.roundsIn (RF ro) n P c (BT B lo C h0 T nt x e' (HP.ov b d').get) j a w
 |0,e,d,n1,a,w,x,e',d',n',h,hr=>by cases h
 |j+1,e,d,n1,a,w,x,e',d',n',h,hr=>by
  simp[qH]at h;split at h
  next x1 e1 d1 n2 hb=>
   rw[roundsIn_succ];refine wpIn_mono (Sc ro n lo W C h0 T R hG J l p r b e d n1 a w x1 e1 d1 n2 hb hr) λex a' w' g=>?_;have fin:x1 ≠ .normal→RX.ok x1 e1 d1 n2 = .ok x e' d' n':=λhx=>by
    split at h
    ·exact(hx rfl).elim
    ·exact h
   cases ex with
   |normal =>obtain⟨rfl,f⟩:=g;exact ux Sc R hG J l p r j _ _ _ _ _ _ _ _ _ h f
   |exit id =>obtain⟨rfl,f⟩:=g;have:=fin (λe=>by cases e);injection this with e1 e2 e3 e4;subst e1;subst e2;subst e3;exact⟨rfl,f⟩
   |ret =>obtain⟨rfl,f⟩:=g;have:=fin (λe=>by cases e);injection this with e1 e2 e3 e4;subst e1;subst e2;subst e3;exact⟨rfl,f⟩
   |goto _=>exact g.elim
   |panic _=>exact g.elim
   |outgrown=>exact g.elim
  ·cases h
def akQ (c:Code):(∃id f y x g l,c = .seq (.region id f false) y∧nF P Gl nt f.toList f.toList = .nxt x g::l∧cC P Gl nt (.loop c) = .rloop x g l (g.toList++Ie l++sW (cC P Gl nt y)) (cC P Gl nt y))∨cC P Gl nt (.loop c) = .loop (cC P Gl nt c):=by
 cases c with
 |seq a y=>
  cases a with
  |region id f p=>
   cases p with
   |true=>exact .inr rfl
   |false=>
    cases j:nF P Gl nt f.toList f.toList with
    |nil=>refine .inr ?_;simp[cC,j]
    |cons o l=>
     cases o with
     |nxt x g=>refine .inl ⟨id,f,y,x,g,l,rfl,j, ?_⟩;simp[cC,j]
     |_=>refine .inr ?_;simp[cC,j]
  |_=>exact .inr rfl
 |_=>exact .inr rfl
def iZ.loopT {U :World}{B:Nat}{k:Pos}{o:EO}{r r':Loop}(hL:w.heap[L]? = some (.loop r))(hL':U.heap[L]? = some (.loop r'))(C:∀b,b≠L→U.heap[b]? = w.heap[b]?)(h:iZ φ w B k o):iZ φ U B k o:=by
 have ne:∀{b:Nat} {x:Obj},w.heap[b]? = some x→(∀r,x ≠ .loop r)→U.heap[b]? = some x:=λ{b x} T hx=>by rw[C b λe=>by subst e;rw[hL]at T;injection T with T;exact hx r T.symm];exact T
 have ex:∀{b:Nat},(∃o,w.heap[b]? = some o)→∃o,U.heap[b]? = some o:=λ{b} ⟨o,T⟩=>by
  by_cases e:b=L
  ·subst e;exact⟨_,hL'⟩
  ·exact⟨o,by rw[C b e];exact T⟩
 cases o with
 |none=>exact h
 |row e s el len gen fz =>obtain⟨h0,J,hmm,h2,h3⟩:=h;refine⟨h0,J,hmm,h2,λg hg=>?_⟩;obtain⟨l,q1,⟨r1,r2,arr,fr,r3,r4⟩,j⟩:=h3 g hg;exact⟨l,q1,⟨r1,r2,arr,fr,ne r3 (λ_ e=>by cases e),r4⟩,j⟩
 |map es clock =>obtain⟨J,l,vs,q1,q2,j,R⟩:=h;exact⟨J,l,vs,q1,q2,ne j (λ_ e=>by cases e),R⟩
 |mit m P seen f=>
  obtain⟨J,l,q1,q2,j⟩:=h;refine⟨J,l,q1,q2, ?_⟩;cases m with
  |none=>exact ne j (λ_ e=>by cases e)
  |some m=>obtain⟨l',R,q5⟩:=j;exact⟨l',R,ne q5 (λ_ e=>by cases e)⟩
 |mitU m P bs st =>obtain⟨J,l,l',seen,f,n,q1,q2,j,R,q5⟩:=h;exact⟨J,l,l',seen,f,n,q1,q2,j,ne R (λ_ e=>by cases e),q5⟩
 |sit s p =>obtain⟨J,h2,l,q1,q2,j⟩:=h;exact⟨J,h2,l,q1,q2,ne j (λ_ e=>by cases e)⟩
 |clo fn first caps=>exact h
 |ifc t v=>exact h
 |emp=>exact h
 |dead=>exact λg l q=>⟨(h g l q).1,ex (h g l q).2⟩
 |res=>exact λg l q=>⟨(h g l q).1,ex (h g l q).2⟩
 |yld=>
  obtain⟨J,l,q1,q2,j,r0,R⟩:=h;refine⟨J,l,q1,q2,j, ?_⟩;by_cases e:l.b=L
  ·exact⟨r',by rw[e];exact hL'⟩
  ·exact⟨r0,by rw[C _ e];exact R⟩
def GlOk.below {W:W0}(h:GlOk Gl P B W)(j:Below B W.w w):GlOk Gl P B ⟨w,φ⟩:=⟨λg t v l w' f=>h.1 g t v l w' (j.trans f),λw' f=>h.2 w' (j.trans f)⟩
def Zp {r p:Gx}{h2:Pos→EO}{j P:World}{r0 r1:Loop}(hB:B≤L)(U:B≤j.heap.size)(R:j.heap[L]? = some (.loop r0))(J:Inv B ⟨j.putObj L (.loop r1),r⟩ p h2 P):Inv B ⟨j,r⟩ p h2 (P.putObj L (.loop r0)):=by
 have T:=(θ.1 R).1;have h1:(j.putObj L (.loop r1)).heap[L]? = some (.loop r1):=World.putObj_heap_same T;have h3:=J.kp.keep _ _ h1 rfl;have f:=(θ.1 h3).1;refine⟨?_,⟨?_,λk o C ho=>?_⟩,J.le,λk C=>?_,by simpa using J.size,λk=>?_,J.sep⟩
 ·have b1:Below B j (j.putObj L (.loop r1)):=(Below.refl B j).grown (grownBy_putObj' j L _) U (λk e=>by cases e;exact hB);exact(b1.trans J.below).grown (grownBy_putObj' P L _) J.size (λk e=>by cases e;exact hB)
 ·exact J.kp.dr
 ·by_cases e:k=L
  ·subst e;rw[R]at C;cases C;exact World.putObj_heap_same f
  ·rw[World.putObj_heap_other e];refine J.kp.keep _ _ ?_ ho;rw[World.putObj_heap_other e];exact C
 ·obtain⟨a1,a2,a3,a4⟩:=J.res k C;refine⟨a1,a2,a3,λg l hl=>?_⟩;by_cases e:l.b=L
  ·rw[e,World.putObj_heap_same f,R]
  ·have:=a4 g l hl;rw[World.putObj_heap_other e]at this⊢;exact this
 ·exact(J.obj k).loopT h3 (World.putObj_heap_same f) λb hb=>World.putObj_heap_other hb
def jW {φ:Gx}:∀{ps:List Nat} {args:List TV} {env f:Env} {g:List Value} {tmps:Array Value},zF (ps.map pos) args env=some f→(∀t∈ps,t<nt∧t+2≤2^64)→tmps.size=nt→ER φ env tmps→RTs φ args g →
  g.length=ps.length∧ER φ f ((ps.zip g).foldl (λtmps (t,a)=>tmps.setIfInBounds t a) tmps)∧((ps.zip g).foldl (λtmps (t,a)=>tmps.setIfInBounds t a) tmps).size=nt
 |[],[],env,f,[],tmps,h,_,j,l,_=>by cases h;exact⟨rfl,l,j⟩
 |t::ps,u::args,env,f,v::g,tmps,h,hb,j,l,hr=>by simp[zF]at h;obtain⟨C,r⟩:=hb t (c_ ..);obtain⟨T,ws,e,r1,r2⟩:=hr.cons;cases e;obtain⟨R,P,J⟩:=jW (tmps:=tmps.setIfInBounds t v) h (λt p=>hb t (C' _ p)) (by simpa using j) (l.set (by rw[j];exact C) r r1) r2;exact⟨by simp[R],P,J⟩
 |[],_::_,_,_,_,_,h,_,_,_,_=>by cases h
 |_::_,[],_,_,_,_,h,_,_,_,_=>by cases h
 |[],[],_,_,_::_,_,_,_,_,_,hr=>by cases hr
 |_::_,_::_,_,_,[],_,_,_,_,_,hr=>by cases hr
end
open Go Go.RowKit
variable [SymVal]
section
variable {P:Program}{Gl:Glt}{B:Nat}{ck:Callk}{U:List Lq}{fuel nt:Nat}
variable{n1:Pos}{ps:Array Tmp}
def agD {j:Gx}{H:Pos→EO}{w w2:World}{W:W0}{l:Nat}{r:Loop}(hI:Inv B W j H w)(hn1:H n1 = .none)(C:w.grownBy w2 none)(hle:w.heap.size≤l)(hdr:w2.drawn=w.drawn)(U:w2.heap[l]? = some (.loop r)):∃J,j.le J∧J.loc n1 0=some ⟨l,0,0⟩∧J.val n1=some (.func (.yield l) #[] #[])∧cG B j H w J (upd H n1 .yld) w2:=by
 have hfr:=hI.free hn1;have p:j.le ((j.add n1 ⟨l,0,0⟩).addV n1 (.func (.yield l) #[] #[])):=(hI.le_add hn1 _).trans ⟨λ_ _ _ h=>h,λq u T=>by
  by_cases e:q=n1
  ·subst e;have T:j.val q=some u:=T;rw[hfr.2.1]at T;cases T
  ·simp[Gx.addV,ο e];exact T,λ_ _ h=>h⟩
 have hl1:((j.add n1 ⟨l,0,0⟩).addV n1 (.func (.yield l) #[] #[])).loc n1 0=some ⟨l,0,0⟩:=Gx.add_self j n1 _;have R:((j.add n1 ⟨l,0,0⟩).addV n1 (.func (.yield l) #[] #[])).val n1=some (.func (.yield l) #[] #[]):=Gx.addV_self _ _ _;refine⟨_,p,hl1,R,p,λW' hI=>?_,λk P=>?_⟩
 ·refine hI.turn p (λk P=>⟨λg=>ο P,ο P,rfl⟩) (λg l' f=>.inr ?_) (λk P _=>C.block k P Ψ) (λg l' f=>by rw[hfr.1 g]at f;cases f) C.1 C.2 C.3 C.4 (by rw[hdr];exact δ _) ⟨λg hg=>?_,⟨l,0,0⟩,hl1,υ hI.size hle,R,_,U⟩
  ·have f:(if n1=n1 then(if g=0 then some (⟨l,0,0⟩:Loc)else none)else j.loc n1 g)=some l':=f;rw[β rfl]at f;split at f
   ·cases f;exact hle
   ·cases f
  ·show(if n1=n1 then(if g=0 then some (⟨l,0,0⟩:Loc)else none)else j.loc n1 g)=none;rw[β rfl,ο Ω]
 ·by_cases e:n1=k
  ·subst e;rw[bk]at P;cases P
  ·rwa[bO _ _ e]at P
def MN {x y:Code}(ckok:CkOk P Gl B ck U)(Sx:sQ P Gl B ck U fuel nt x)(Sy:sQ P Gl B ck U fuel nt y){l D:Nat}{fn:FuncId}{f:Array Value}{e:Env}(hBl:B≤l)(apartL:∀q∈U,q.l≠l)(hsz:f.size=nt)(hsk:cm x=true)(hnb:cm y=true)(hps:∀t∈ps.toList,t<nt∧t+2≤2^64) :
  ON P Gl B (rP n1 ck.call e (ps.toList.map pos) λb e d n=>match exec ck fuel (cC P Gl nt x) b e d n with
   |.ok .normal e d n=>exec ck fuel (cC P Gl nt y) b e d n
   |_=>.no) (⟨n1,l,{ state :=.ready,pending:=none,fn,tmps:=f,params:=ps,assign:=x,body:=y,defers:=D },e,f⟩::U):=by
 intro b' j args d3 n3 v3 d4 n4 hy W' φ' w' hG' hI' vs hargs hcx';unfold rP at hy;split at hy
 next hj=>
  have hj:=Pos.beq_iff.1 hj;subst hj;split at hy
  next env' hset=>
   split at hy
   ·rename_i x5 e5 d5 n5 p;split at hy
    ·injection hy with y1 y2 y3;subst y1;subst y2;subst y3;dsimp only at p;split at p
     ·rename_i e6 d6 n6 hasg;intro l' hl' ro' n';obtain⟨⟨lq,hq1,hq2⟩,g,hEq⟩:=hcx' _ (c_ ..);simp only at hq1 hq2 g hEq;rw[hl']at hq1;cases hq1;obtain⟨hlen,hps',hsz'⟩:=jW hset hps hsz hEq hargs;rw[hq2];refine⟨_,_,_,_,run_yield g (by simpa using hlen), ?_⟩;have hroo:IY (some l) w':=λl0 hl0=>by
       cases hl0;exact⟨_,g⟩
      have hfold:((ps.zip vs.toArray).foldl (λf (t,a)=>f.setIfInBounds t a) f)=((ps.toList.zip vs).foldl (λf (t,a)=>f.setIfInBounds t a) f):=by rw[←Array.foldl_toList,Array.toList_zip]
      have hcxT:Ctx U φ' w':=λq hq=>hcx' q (C' _ hq);refine roundIn_of_wpIn trivial (wpIn_mono (Sx (some l) n' w'.heap.size W' φ' _ w' hI' hG' hcxT hroo (.inr hsk) (δ _) b' env' d3 n3 { tmps:=_,defers:=[] } w' .normal e6 d6 n6 hasg ⟨⟨φ',cG.refl,by rw[hfold];exact hps'⟩,by rw[hfold];exact hsz',[],rfl,asQ,λD hD=>by cases hD⟩) λe1 a1 wx J=>?_);cases e1 with
      |exit id=>exact(by cases J.1)
      |ret=>exact(by cases J.1)
      |goto _=>exact J.elim
      |panic _=>exact J.elim
      |outgrown=>exact J.elim
      |normal=>
       obtain⟨_,hr1⟩:=J;obtain⟨R,hs1,hE1⟩:=hr1.ex;have J1:=hs1.2.1 _ hI'.self;have r:=J1.kp.keep _ _ g rfl;refine⟨_,run_beginRound r rfl, ?_⟩;have hlt1:=(θ.1 r).1;obtain⟨ms1,mdf1,mnd1,mk1⟩:=hr1.df;have Jx:=hs1.2.1 _ hI';have hIb:Inv B ⟨wx.putObj l (.loop { state :=.busy,pending:=none,fn,tmps:=f,params:=ps,assign:=x,body:=y,defers:=D }),R⟩ R (HP.ov b' d6).get (wx.putObj l (.loop { state :=.busy,pending:=none,fn,tmps:=f,params:=ps,assign:=x,body:=y,defers:=D })) :=
        ⟨Below.refl _ _,Kp.refl _,Gx.le.refl _,λ_ _=>⟨λ_=>rfl,rfl,rfl,λ_ _ _=>rfl⟩,by simpa using Jx.size,λk=>(Jx.obj k).loopT r (World.putObj_heap_same hlt1) λb hb=>World.putObj_heap_other hb,Jx.sep⟩
       have hbW:Below B W'.w (wx.putObj l (.loop { state :=.busy,pending:=none,fn,tmps:=f,params:=ps,assign:=x,body:=y,defers:=D })):=Jx.below.grown (grownBy_putObj' wx l _) Jx.size (λk e=>by cases e;exact hBl);have hcxb:Ctx U R (wx.putObj l (.loop { state :=.busy,pending:=none,fn,tmps:=f,params:=ps,assign:=x,body:=y,defers:=D })):=λq hq=>by obtain⟨z1,z2,z3⟩:=(hcxT.more hI' hs1) q hq;exact⟨z1,by rw[World.putObj_heap_other (apartL q hq)];exact z2,z3⟩
       refine wpIn_mono (Sy (some l) n' 0 _ R _ _ hIb (hG'.below hbW) hcxb (λl0 hl0=>by
         cases hl0;exact⟨_,World.putObj_heap_same hlt1⟩) (.inr hnb) (s_ _) b' e6 d6 n6 a1 _ .normal e5 d5 n5 p ⟨⟨R,cG.refl,hE1⟩,hr1.sz,ms1,mdf1,mnd1,λD' hD'=>⟨s_ _,by
         have hd:=(mk1 D' hD').2;rw[World.putObj_heap_other (λe=>by subst e;rw[r]at hd;cases hd)];exact hd⟩⟩) λe2 a2 w3 C=>?_
       cases e2 with
       |exit id=>exact(by cases C.1)
       |ret=>exact(by cases C.1)
       |goto _=>exact C.elim
       |panic _=>exact C.elim
       |outgrown=>exact C.elim
       |normal =>obtain⟨_,hr2⟩:=C;obtain⟨ψ2,T,hE3⟩:=hr2.ex;have J2:=T.2.1 _ hIb;have hl3:=J2.kp.keep _ _ (World.putObj_heap_same hlt1) rfl;have J3:=Zp (r0:={ state :=.ready,pending:=none,fn,tmps:=f,params:=ps,assign:=x,body:=y,defers:=D }) hBl Jx.size r J2;refine⟨.bool true,_,run_endRound none hl3,.bool true,ψ2,rfl,hs1.trans (vM T.1 J3 T.2.2),rfl⟩
     ·cases p
    ·cases hy
   ·cases hy
  ·cases hy
 ·exact ckok.call _ _ _ _ _ _ _ _ hy W' φ' w' hG' hI' vs hargs (λq hq=>hcx' q (C' _ hq))
def Zq {g:Operand}{x y:Code}(ckok:CkOk P Gl B ck U)(Sx:sQ P Gl B ck U fuel nt x)(Sy:sQ P Gl B ck U fuel nt y):sQ P Gl B ck U fuel nt (.rangeFunc g ps x y):=by
 intro ro n lo W C h0 T hI0 hG hcx hro hnd hlo0 b e d n1 a w X e' d' n' h hr;simp only[cC]at h;split at h
 rotate_left
 ·cases h
 rename_i hchk;simp only[ι,d_,Δ]at hchk;obtain⟨⟨hsk,hnb⟩,hps⟩:=hchk;simp[exec]at h;split at h
 rotate_left
 ·cases h
 rename_i hfree;have hn1:(HP.ov b d).get n1 = .none:=by
  unfold bT at hfree;simp only at hfree;split at hfree
  ·assumption
  ·cases hfree
 split at h
 rotate_left
 ·cases h
 rename_i gf us hen;split at h
 rotate_left
 ·cases h
 rename_i vout d1 n2 hcall;injection h with q1 q2 q3 q4;subst q1;subst q2;subst q3;subst q4;obtain⟨φ,hs,hE⟩:=hr.ex;have hI:=hs.2.1 _ hI0;obtain⟨ms,hms,hnod,hmk⟩:=hr.df;have hk0:=(hs.2.1 _ hI0.self).kp;refine wpIn_rangeFunc λfn _=>?_;obtain⟨l,mark,w2,D,hrun,hgr,hle,hdr,hrec,ms2,hmark,hnod2,hmk2⟩:=pI (P:=P) (w:=w) fn a.tmps ps x y (ro:=ro) (hro.more hk0);obtain⟨φ2,hle2,hl1,hv1,hst2⟩:=agD hI hn1 hgr hle hdr hrec;have hstep2:=hst2.2.1;have hI2:=hstep2 _ hI;have eH:(HP.ov b (gz d n1 .yld)).get=upd (HP.ov b d).get n1 .yld:=HP.get_set b d n1 .yld;have hE2:=hE.mono hle2;have hBl:B≤l:=υ hI.size hle;have hcx2:Ctx (⟨n1,l,{ state :=.ready,pending:=none,fn,tmps:=a.tmps,params:=ps,assign:=x,body:=y,defers:=D },e,a.tmps⟩::U) φ2 w2:=λq hq=>by
  obtain rfl|hq:=N'.1 hq
  ·exact⟨⟨_,hl1,rfl⟩,hrec,hE2⟩
  ·exact(hcx.more hI0 (hs.trans hst2)) q hq
 have apartL:∀q∈U,q.l≠l:=λq hq ee=>by have h0:=hk0.keep _ _ (hcx q hq).2.1 rfl;have:=(θ.1 h0).1;omega
 have yok:=MN (fn:=fn) (D:=D) (n1:=n1) (e:=e) ckok Sx Sy hBl apartL hr.sz hsk hnb hps;have hgv:=ny hE2 g;have hval:RTs φ2 (bA e (oH g)::[.pv (.one (.clo n1))]) [a.eval g,.func (.yield l) #[] #[]]:=⟨hgv,by
  show den φ2 (.clo n1)=some _;simp[den,hv1],awN⟩
 rw[eH]at hen;obtain⟨fv,xs,hus,first,caps,hfv,hargs⟩:=Bl hI2 hen hval;cases hus;have hI2':Inv B W φ2 (HP.ov b (gz d n1 .yld)).get w2:=by rw[eH];exact hI2
 obtain⟨⟨fnn,f1,f2,f3⟩,hcalls⟩:=ckok.iter _ _ yok _ _ _ _ _ _ _ _ hcall W φ2 w2 hG hI2' _ hargs hcx2;have hbody:¬fnn.body=none:=by cases hb:fnn.body <;> simp_all
 have f3:¬fnn.name = "runtime.NumGoroutine":=by simpa using f3
 refine⟨l,mark,w2,{ target :=.fn (.func gf) caps,args:=first ++ #[.func (.yield l) #[] #[]] },w2,gf,(first.toList++[Value.func (.yield l) #[] #[]]++caps.toList).toArray,w2,hrun, ?_,λ_ _=>trivial, ?_, ?_, ?_⟩
 ·simp[resolve,hfv];simp[Deferred.ofValue,Act.eval]
 ·have e2:first ++ #[Value.func (.yield l) #[] #[]]++caps=(first.toList++[Value.func (.yield l) #[] #[]]++caps.toList).toArray:=i_ Ψ
  simp[invoke,callFunc,H_,ν,f1,e2];simp[f3,hbody]
 ·intro q;cases q
 ·refine By ?_;refine hcalls.mono ?_;rintro _ w3 ⟨v,ψ,rfl,hst3,hrv⟩;rw[eH]at hst3;have J3:=hst3.2.1 _ hI2.self;have hl3:=J3.kp.keep _ _ hrec rfl;have hlt3:=(θ.1 hl3).1;refine⟨none,_,run_endLoop hl3 Ψ,rfl,⟨ψ,⟨hs.1.trans (hle2.trans hst3.1),λW' hW=>?_,λk hk=>hs.2.2 k (hst2.2.2 k (hst3.2.2 k hk))⟩,hE2.mono hst3.1⟩,hr.sz,ms2++ms, ?_, ?_,λD' hD'=>?_⟩
  ·have hIw:=hs.2.1 _ hW;have J4:=hst3.2.1 _ (hstep2 _ hIw);refine⟨J4.below.grown (grownBy_putObj' w3 l _) J4.size (λk e=>by cases e;exact hBl),⟨J4.kp.dr,λk o hk ho=>?_⟩,J4.le,λk hk=>?_,by simpa using J4.size,λk=>(J4.obj k).loopT hl3 (World.putObj_heap_same hlt3) λb hb=>World.putObj_heap_other hb,J4.sep⟩
   ·have h1:=hIw.kp.keep _ _ hk ho;have:=(θ.1 h1).1;rw[World.putObj_heap_other Ω];exact J4.kp.keep _ _ hk ho
   ·obtain⟨z1,z2,z3,z4⟩:=J4.res k hk;refine⟨z1,z2,z3,λg' l' hl'=>?_⟩;have hlw:φ.loc k g'=some l':=hIw.le.loc k g' l' (by rw[←z1 g'];exact hl');have:=hIw.lt hlw;rw[World.putObj_heap_other Ω];exact z4 g' l' hl'
  ·show mark++a.defers=_;rw[hmark,hms,ar5]
  ·rw[List.nodup_append];refine⟨hnod2,hnod,λD1 h1 D2 h2 ed=>?_⟩;have:=(hmk2 D1 h1).1;have h3:=(θ.1 (hmk D2 h2).2).1;omega
  ·obtain h1|h1:=Q'.1 hD'
   ·obtain⟨x1,x2,x3⟩:=hmk2 D' h1;refine⟨?_,by rw[World.putObj_heap_other x2];exact J3.kp.keep _ _ x3 rfl⟩;exact υ hlo0 (υ (hs.2.1 _ hI0.self).below.size x1)
   ·obtain⟨x1,x2⟩:=hmk D' h1;have x3:=(θ.1 x2).1;refine⟨x1, ?_⟩;rw[World.putObj_heap_other Ω];exact J3.kp.keep _ _ ((hst2.2.1 _ hI.self).kp.keep _ _ x2 rfl) rfl
end
open Go Go.RowKit
variable [SymVal]
section
variable {P:Program}{Gl:Glt}{B:Nat}{ck:Callk}{U:List Lq}{fuel nt:Nat}
def jp (hm:P.follows .mixedOrders=true)(ckok:CkOk P Gl B ck U):∀c:Code,sQ P Gl B ck U fuel nt c∧∀x y,c = .seq x y→sQ P Gl B ck U fuel nt y:=by
 intro c;induction c with
 |skip =>refine⟨λro n lo W C h0 T p hG j r f J b e d n1 a w x e' d' n' h R=>?_,λ_ _ e=>by cases e⟩;simp only[cC,exec]at h;injection h with h1 h2 h3 h4;subst h1;subst h2;subst h3;exact wpIn_skip ⟨rfl,R⟩
 |label l =>refine⟨λro n lo W C h0 T p hG j r f J b e d n1 a w x e' d' n' h R=>?_,λ_ _ e=>by cases e⟩;simp only[cC,exec]at h;injection h with h1 h2 h3 h4;subst h1;subst h2;subst h3;exact wpIn_label ⟨rfl,R⟩
 |region id ops draw=>
  refine⟨λro n lo W C h0 T p hG j r f J b e d n1 a w x e' d' n' h R=>?_,λ_ _ e=>by cases e⟩;have u0:∀{e1:Env} {d1:DM} {n2:Pos},RX.ok .normal e1 d1 n2 = .ok x e' d' n'→∀ex a w,kN B lo C h0 T nt e1 (HP.ov b d1).get ex a w→BT B lo C h0 T nt x e' (HP.ov b d').get ex a w:=by
   intro e1 d1 n2 he ex a w hn;injection he with h1 h2 h3 h4;subst h1;subst h2;subst h3;cases ex with
   |normal=>exact⟨rfl,hn⟩
   |_=>exact hn.elim
  cases draw with
  |false=>
   simp[cC,exec]at h;split at h
   next e1 d1 n2 hrun=>exact wpIn_mono (QL f.ops p hG ckok j hrun R) (u0 h)
   ·cases h
  |true=>
   simp[cC,afZ]at h;split at h
   ·rename_i ps hps;simp[exec]at h;split at h
    ·rename_i rs d1 n2 hrv;split at h
     ·rename_i infs e1 d2 n3 hrt;cases hpo:d9 infs ps with
      |false=>rw[hpo]at h;cases h
      |true =>rw[hpo,ξ]at h;exact wpIn_mono (SJ hm f.ops p hG ckok j hps rfl hrv hrt hpo R) (u0 h)
     ·cases h
    ·cases h
   ·cases h
 |seq x y ihx ihy=>
  refine⟨λro n lo W C h0 T p hG j r f J b e d n1 a w X e' d' n' h R=>?_,λx' y' e=>by injection e with e1 e2;subst e2;exact ihy.1⟩;simp[cC,exec]at h;split at h
  next x1 e1 d1 n2 hx=>
   refine wpIn_seq (wpIn_mono (ihx.1 ro n lo W C h0 T p hG j r (bV.left f) J b e d n1 a w x1 e1 d1 n2 hx R) λex a w hn=>?_);have fin:x1 ≠ .normal→RX.ok x1 e1 d1 n2 = .ok X e' d' n':=λhx=>by
    split at h
    ·exact(hx rfl).elim
    ·exact h
   cases ex with
   |normal =>obtain⟨rfl,hr'⟩:=hn;exact ihy.1 ro n lo W C h0 T p hG j r (bV.right f) J b e1 d1 n2 a w X e' d' n' h hr'
   |exit id =>obtain⟨rfl,hr'⟩:=hn;have:=fin (λe=>by cases e);injection this with e1 e2 e3 e4;subst e1;subst e2;subst e3;exact⟨rfl,hr'⟩
   |ret =>obtain⟨rfl,hr'⟩:=hn;have:=fin (λe=>by cases e);injection this with e1 e2 e3 e4;subst e1;subst e2;subst e3;exact⟨rfl,hr'⟩
   |goto _=>exact hn.elim
   |panic _=>exact hn.elim
   |outgrown=>exact hn.elim
  ·cases h
 |cond cnd x y ihx ihy=>
  refine⟨λro n lo W C h0 T p hG j r f J b e d n1 a w X e' d' n' h R=>?_,λ_ _ e=>by cases e⟩;simp[cC,exec]at h;split at h
  next t ht=>
   obtain⟨φ,hs,hE⟩:=R.ex;have hv:=ny hE cnd;rw[ht]at hv;have hv:=rt_bl hv;cases t with
   |true=>exact wpIn_cond_true hv (ihx.1 ro n lo W C h0 T p hG j r (bV.left f) J b e d n1 a w X e' d' n' h R)
   |false=>exact wpIn_cond_false hv (ihy.1 ro n lo W C h0 T p hG j r (bV.right f) J b e d n1 a w X e' d' n' h R)
  ·cases h
 |block id x ih=>
  refine⟨λro n lo W C h0 T p hG j r f J b e d n1 a w X e' d' n' h R=>?_,λ_ _ e=>by cases e⟩;simp[cC,exec]at h;split at h
  next x1 e1 d1 n2 hx=>
   refine wpIn_block (wpIn_mono (ih.1 ro n lo W C h0 T p hG j r f J b e d n1 a w x1 e1 d1 n2 hx R) λex a w hn=>?_);cases ex with
   |normal =>obtain⟨rfl,hr'⟩:=hn;injection h with h1 h2 h3 h4;subst h1;subst h2;subst h3;exact⟨rfl,hr'⟩
   |exit id'=>
    obtain⟨rfl,hr'⟩:=hn;show if id'=id then _ else _
    simp only at h;cases hb:Nat.beq id' id with
    |true =>rw[hb]at h;rw[β (κ hb)];injection h with h1 h2 h3 h4;subst h1;subst h2;subst h3;exact⟨rfl,hr'⟩
    |false =>rw[hb]at h;rw[ο (E_ hb)];injection h with h1 h2 h3 h4;subst h1;subst h2;subst h3;exact⟨rfl,hr'⟩
   |ret =>obtain⟨rfl,hr'⟩:=hn;injection h with h1 h2 h3 h4;subst h1;subst h2;subst h3;exact⟨rfl,hr'⟩
   |goto _=>exact hn.elim
   |panic _=>exact hn.elim
   |outgrown=>exact hn.elim
  ·cases h
 |loop c ih=>
  refine⟨λro n lo W C h0 T p hG j r f J b e d n1 a w X e' d' n' h R=>?_,λ_ _ e=>by cases e⟩;rcases akQ (P:=P) (Gl:=Gl) (nt:=nt) c with⟨id,ops,y,x,dst,l,rfl,hco,hcc⟩|hcc
  ·rw[hcc]at h;have hplain:qH (λe d n=>xA (bc ck b (.nxt x dst::l) e d n) (exec ck fuel (cC P Gl nt y) b)) fuel e d n1 = .ok X e' d' n'→(Code.loop (.seq (.region id ops false) y)).wpIn (RF ro) n P (BT B lo C h0 T nt X e' (HP.ov b d').get) a w:=λh=>by
    refine wpIn_loop_rounds fuel (ux ih.1 p hG j r f J fuel e d n1 a w X e' d' n' ?_ R);rw[←h];congr 1;funext e d n;simp[cC,hco,exec];cases bc ck b (.nxt x dst::l) e d n <;> rfl
   simp only[exec]at h;split at h
   ·rename_i it g hx;split at h
    ·rename_i m since sp hit;split at h
     ·rename_i es clock hmm;split at h
      ·rename_i y1 y2 yr;cases hchk:(Nat.ble since sp&&Nat.ble since clock&&(y1::y2::yr).all λx=>Nat.blt x.born since)with
       |false=>rw[hchk]at h;cases h
       |true=>
        rw[hchk,ξ]at h;simp only[ι,bD]at hchk;obtain⟨⟨c1,c2⟩,c3⟩:=hchk;rw[f?]at h;split at h
        ·rename_i heach;have hX:X ≠ .normal∧xA (bc ck b l (bn (xR (dst.toList++Ie l++sW (cC P Gl nt y)) (uW e)) dst Fu) (gz d it .dead) n1) (exec ck fuel (cC P Gl nt y) b) = .ok X e' d' n':=by
          split at h
          ·cases h
          next hne=>refine⟨λe=>?_,h⟩;subst e;exact hne _ _ _ h
         refine wpIn_loop_rounds (Ir (dN (y1::y2::yr)) #[]+1) (Qd hco ckok (ih.2 _ _ rfl) p hG j r f J hx hit hmm c3 c2 heach hX.2 hX.1 _ [] sp a w c1 (atf _) ?_);obtain⟨φ,hs,hE⟩:=R.ex;have e1:upd (HP.ov b d).get it (.mit (some m) since [] sp)=(HP.ov b d).get:=by
          funext k;simp only[upd];split
          next ek=>rw[←ek,hit]
          ·rfl
         rw[e1];exact⟨⟨φ,hs,hE.drop _⟩,R.sz,R.df⟩
        ·cases h
      ·exact hplain h
     ·cases h
    ·exact hplain h
    ·cases h
   ·cases h
  ·rw[hcc]at h;simp only[exec]at h;exact wpIn_loop_rounds fuel (ux ih.1 p hG j r f J fuel e d n1 a w X e' d' n' h R)
 |exit id =>refine⟨λro n lo W C h0 T p hG j r f J b e d n1 a w x e' d' n' h R=>?_,λ_ _ e=>by cases e⟩;simp only[cC,exec]at h;injection h with h1 h2 h3 h4;subst h1;subst h2;subst h3;exact wpIn_exit ⟨rfl,R⟩
 |ret =>refine⟨λro n lo W C h0 T p hG j r f J b e d n1 a w x e' d' n' h R=>?_,λ_ _ e=>by cases e⟩;simp only[cC,exec]at h;injection h with h1 h2 h3 h4;subst h1;subst h2;subst h3;exact wpIn_ret ⟨rfl,R⟩
 |rangeFunc g ps x y ihx ihy=>exact⟨Zq ckok ihx.1 ihy.1,λ_ _ e=>by cases e⟩
 |scope x ih=>
  refine⟨λro n lo W C h0 T p hG j r f J b e d n1 a w X e' d' n' h R=>?_,λ_ _ e=>by cases e⟩;refine xq (wpIn_mono (ih.1 ro n lo W C h0 T p hG j r f J b e d n1 a w X e' d' n' h R) λex a w hn=>?_);cases ex with
  |goto _=>exact hn.elim
  |_=>exact hn
 |goto l=>exact⟨λro n lo W C h0 T p hG j r f J b e d n1 a w x e' d' n' h R=>(by cases h),λ_ _ e=>by cases e⟩
 |refuse s=>exact⟨λro n lo W C h0 T p hG j r f J b e d n1 a w x e' d' n' h R=>(by cases h),λ_ _ e=>by cases e⟩
end
open Go Go.RowKit
variable [SymVal]
def jf (f:Array Value):ResultVar→Sem Value
 |.tmp t=>pure (f.getD t undef)
 |.cell t g=>do loadVar g (←asAddr (f.getD t undef))
section
variable {P:Program}{Gl:Glt}{B:Nat}{W:W0}{φ C ψ:Gx}{h h0:Pos→EO}{w T:World}
def iZ.defT {k:Pos}{o:EO}{w U:World}{L:Nat}{r r':Option (List Deferred)}(hL:w.heap[L]? = some (.deferred r))(hL':U.heap[L]? = some (.deferred r'))(J:∀b,b≠L→U.heap[b]? = w.heap[b]?)(h:iZ φ w B k o):iZ φ U B k o:=by
 have ne:∀{b:Nat} {x:Obj},w.heap[b]? = some x→(∀r,x ≠ .deferred r)→U.heap[b]? = some x:=λ{b x} T hx=>by rw[J b λe=>by subst e;rw[hL]at T;injection T with T;exact hx r T.symm];exact T
 have ex:∀{b:Nat},(∃o,w.heap[b]? = some o)→∃o,U.heap[b]? = some o:=λ{b} ⟨o,T⟩=>by
  by_cases e:b=L
  ·subst e;exact⟨_,hL'⟩
  ·exact⟨o,by rw[J b e];exact T⟩
 cases o with
 |none=>exact h
 |row e s el len gen fz =>obtain⟨h0,C,hmm,h2,h3⟩:=h;refine⟨h0,C,hmm,h2,λg hg=>?_⟩;obtain⟨l,q1,⟨r1,r2,arr,fr,r3,r4⟩,j⟩:=h3 g hg;exact⟨l,q1,⟨r1,r2,arr,fr,ne r3 (λ_ e=>by cases e),r4⟩,j⟩
 |map es clock =>obtain⟨C,l,vs,q1,q2,j,R⟩:=h;exact⟨C,l,vs,q1,q2,ne j (λ_ e=>by cases e),R⟩
 |mit m P seen f=>
  obtain⟨C,l,q1,q2,j⟩:=h;refine⟨C,l,q1,q2, ?_⟩;cases m with
  |none=>exact ne j (λ_ e=>by cases e)
  |some m=>obtain⟨l',R,q5⟩:=j;exact⟨l',R,ne q5 (λ_ e=>by cases e)⟩
 |mitU m P bs st =>obtain⟨C,l,l',seen,f,n,q1,q2,j,R,q5⟩:=h;exact⟨C,l,l',seen,f,n,q1,q2,j,ne R (λ_ e=>by cases e),q5⟩
 |sit s p =>obtain⟨C,h2,l,q1,q2,j⟩:=h;exact⟨C,h2,l,q1,q2,ne j (λ_ e=>by cases e)⟩
 |clo fn first caps=>exact h
 |ifc t v=>exact h
 |emp=>exact h
 |dead=>exact λg l q=>⟨(h g l q).1,ex (h g l q).2⟩
 |res=>exact λg l q=>⟨(h g l q).1,ex (h g l q).2⟩
 |yld =>obtain⟨C,l,q1,q2,j,r0,R⟩:=h;exact⟨C,l,q1,q2,j,r0,ne R (λ_ e=>by cases e)⟩
def aaj (_:Inv B W C h0 T)(P:cG B C h0 T ψ h w){D:Nat}{r r':Option (List Deferred)}(hD:w.heap[D]? = some (.deferred r))(hlo:T.heap.size≤D):cG B C h0 T ψ h (w.putObj D (.deferred r')):=by
 have U:=(θ.1 hD).1;refine⟨P.1,λW' g=>?_,P.2.2⟩;have J:=P.2.1 _ g;refine⟨J.below.grown (grownBy_putObj' w D _) J.size (λk e=>by cases e;exact υ g.size hlo),⟨J.kp.dr,λk o j ho=>?_⟩,J.le,λk j=>?_,by simpa using J.size,λk=>(J.obj k).defT hD (World.putObj_heap_same U) λb hb=>World.putObj_heap_other hb,J.sep⟩
 ·have h1:=g.kp.keep _ _ j ho;have:=(θ.1 h1).1;rw[World.putObj_heap_other Ω];exact J.kp.keep _ _ j ho
 ·obtain⟨z1,z2,z3,z4⟩:=J.res k j;refine⟨z1,z2,z3,λl p f=>?_⟩;have R:C.loc k l=some p:=g.le.loc k l p (by rw[←z1 l];exact f);have:=g.lt R;rw[World.putObj_heap_other Ω];exact z4 l p f
def dS (j:Inv B W C h0 T){fn:Func}{f:Array Value}{R:Ending→World→Prop}{n:Nat}:∀(g:List Nat) (w:World),cG B C h0 T ψ h w→g.Nodup→(∀D∈g,T.heap.size≤D∧w.heap[D]? = some (.deferred (some []))) →
  (∀p,cG B C h0 T ψ h p→∃v,(results fn f).run P p = .ok v p∧R (.returned v) p) →
  LeavesInM (RF none) n P fn f R (g.map λD=>{ target :=.collected D,args :=#[] }) .returning w
 |[],w,hs,_,_,hk=>hk w hs
 |D::g,w,hs,hnd,hall,hk=>by obtain⟨hB,hD⟩:=hall D (c_ ..);obtain⟨U,J⟩:=atn.1 hnd;refine⟨Ψ,.inl ⟨D,_,rfl,run_takeDeferred hD, ?_⟩⟩;refine dS j g _ (aaj j hs hD hB) J (λD' l=>?_) hk;obtain⟨h1,h2⟩:=hall D' (C' _ l);have r:D'≠D:=λe=>U (by rw[←e];exact l);exact⟨h1,(World.putObj_heap_other r).trans h2⟩
variable{e:Env}{tmps:Array Value}{l:List PV}{vs:List Value}
def tY (hI:Inv B W φ h w)(hE:ER φ e tmps){T:ResultVar}{r:FR}(j:akK P T=some r){u:PV}(f:zL e h r=some u):∃v,(jf tmps T).run P w = .ok v w∧bg φ u=some v:=by
 cases T with
 |tmp t=>
  simp only[akK]at j;split at j
  next p=>
   cases j;simp[zL]at f;split at f
   next v U=>cases f;have:=hE t p;rw[U]at this;exact⟨_,by simp[jf],this⟩
   ·cases f
  ·cases j
 |cell t ty=>
  simp only[akK]at j;split at j
  next b hb=>
   split at j
   ·rename_i p;cases j;simp[zL]at f;split at f
    ·rename_i k g C U;have J:=hE t p.1;rw[U]at J;split at f
     ·rename_i cs hcs;obtain⟨l,hl,e⟩:=gN J;obtain⟨vs,q1,q2,q3,_⟩:=hI.rd hcs hl;have R:vs.length=ap P ty:=by rw[bo q1,q2]
      unfold I4 at f;cases b with
      |true =>cases f;refine⟨.agg vs.toArray, ?_,by show bg φ (.agg cs)=_;simp[bg,q1]⟩;have:=B? (P:=P) w ⟨l.b,C,none⟩ vs q3;rw[R]at this;simp[jf,e,asAddr,loadVar,run_isAgg hb,aJ p.2,this]
      |false=>
       simp only at f;split at f
       next c=>cases f;obtain⟨v,ws,rfl,z1,z2⟩:=co q1;refine⟨v, ?_,z1⟩;have j:=q3 0 v rfl;rw[show((⟨l.b,C,none⟩:Addr).add 0)=⟨l.b,C,none⟩by simp[Addr.add]]at j;simp[jf,e,asAddr,loadVar,run_isAgg hb,run_load,j]
       ·cases f
     ·cases f
    ·cases f
   ·cases j
  ·cases j
def iF (j:Inv B W φ h w){e:Env}{tmps:Array Value}(p:ER φ e tmps):∀{f:List ResultVar} {g:List FR} {l:List PV},LQ P f=some g→eT e h g=some l →
  ∃vs,(f.mapM (jf tmps)).run P w = .ok vs w∧cN φ l=some vs
 |[],g,l,hc,hr=>by cases hc;cases hr;exact⟨[],Ψ,rfl⟩
 |rv::f,g,l,hc,hr=>by
  simp[LQ]at hc;split at hc
  next a b h1 h2=>
   cases hc;simp[eT]at hr;split at hr
   ·rename_i u r;split at hr
    next us hus=>cases hr;obtain⟨v,J,C⟩:=tY j p h1 r;obtain⟨vs,q1,q2⟩:=iF j p h2 hus;refine⟨v::vs, ?_,bU C q2⟩;rw[arR,ν,J,Θ,ν,q1,Θ];rfl
    ·cases hr
   ·cases hr
  ·cases hc
def LD:∀{l:List PV} {vs:List Value},cN φ l=some vs→vs.length=l.length
 |[],vs,r=>by cases r;rfl
 |c::l,vs,r=>by obtain⟨v,ws,rfl,_,f⟩:=gR r;simp[LD f]
def oS (f:cN φ l=some vs):RT φ (oT l) (if h:vs.length=1 then vs[0]else .tuple vs.toArray):=by
 have g:=LD f;match l,vs,f,g with
 |[],[],f,_=>exact⟨[],rfl,Ψ⟩
 |[u],[v],f,_ =>obtain⟨p,ws,e,j,r⟩:=gR f;cases e;have j:RT φ (.pv u) v:=j;simpa[oT]using j
 |u::u'::l,v::p::vs,f,_=>exact⟨v::p::vs,f,Ψ⟩
def eK (p:Inv B W φ h w)(r:ER φ e tmps){fn:Func}{f:List FR}(j:LQ P fn.results.toList=some f)(g:eT e h f=some l):∃v,(results fn tmps).run P w = .ok v w∧RT φ (oT l) v:=by
 obtain⟨vs,J,C⟩:=iF p r j g;refine⟨_, ?_,oS C⟩;have e:results fn tmps=(do let vs ←fn.results.mapM (jf tmps);pure (if h:vs.size=1 then vs[0]else .tuple vs)):=by unfold results;congr 2
 rw[e,t?,ν,asp,ν,J,Θ];simp
def GW:∀(l:List TV) (p:Pos) (e:Env) (q:Pos),(pz l p e).get .unk q=if p.num≤q.num∧q.num<p.num+l.length then l.getD (q.num-p.num) .unk else e.get .unk q
 |[],p,e,q=>by simp[pz];intro g r;omega
 |a::l,p,e,q=>by
  simp only[pz];rw[GW l p.succ (PM.set .unk p e a) q,PM.get_set,Pos.num_succ];simp only[upd];by_cases f:p=q
  ·subst f;rw[ο Ω,β rfl,β ⟨δ _,Ψ⟩,aty];rfl
  ·have j:p.num≠q.num:=λe=>f (Pos.inj e);rw[ο f];simp only[q_];by_cases g:p.num+1≤q.num∧q.num<p.num+1+l.length
   ·rw[β g,β ⟨Ω,Ω⟩,show q.num-p.num=(q.num-(p.num+1))+1 by omega,List.getD_cons_succ]
   ·rw[ο g,ο Ω]
def RTs.get:∀{l:List TV} {vs:List Value} (i:Nat),RTs φ l vs→i<l.length→RT φ (l.getD i .unk) (vs.getD i undef)
 |a::l,vs,0,h,_=>by obtain⟨v,ws,rfl,g,f⟩:=h.cons;exact g
 |a::l,vs,i+1,h,hi=>by obtain⟨v,ws,rfl,g,f⟩:=h.cons;simp;exact RTs.get i f (by simpa using hi)
 |[],_,_,_,hi=>by simp at hi
def lR {l:List TV}(g:RTs φ l vs)(n:Nat):ER φ (pz l .e .leaf) (vs.toArray++Array.replicate n undef):=λt j=>by
 have p:(pos t).num=t:=uf 64 t j;rw[GW,p];simp only[Pos.num,s_,I',as5,asw];split
 next hlt=>
  have f:t<vs.length:=by have:=g.len;omega
  have:=g.get t hlt;have e:(vs.toArray++Array.replicate n undef).getD t undef=vs.getD t undef:=by rw[n_,e_,K_ (by simpa using f)];simp
  rw[e];exact this
 ·exact trivial
def Lo {f:FuncId}{x:Fi}(hx:fiOf P Gl f=some x):∃fn c rs,P.funcs[f]? = some fn∧fn.body=some c∧(fn.name == "runtime.NumGoroutine")=false∧LQ P fn.results.toList=some rs∧x=⟨cC P Gl fn.ntmps c,rs,fn.ntmps⟩:=by
 unfold fiOf at hx;split at hx
 next fn hf=>
  split at hx
  next c hb=>
   split at hx
   ·cases hx
   ·rename_i hn;split at hx
    next rs hrs=>simp at hx;exact⟨fn,c,rs,hf,hb,by simpa using hn,hrs,hx.symm⟩
    ·cases hx
  ·cases hx
 ·cases hx
def kn (hm:P.follows .mixedOrders=true){C:Nat}:∀(dp:Nat) (J:Yk) (U:List Lq),ON P Gl B J U→sR P Gl B (qE (fiOf P Gl) C dp J) U:=by
 intro dp;induction dp with
 |zero=>
  intro J U r b t args d n v d' n' g;cases t with
  |yld j=>exact r b j args d n v d' n' g
  |fn f=>cases g
 |succ dp ih=>
  intro J U r b t args d n v d' n' g;cases t with
  |yld j=>exact r b j args d n v d' n' g
  |fn f=>
   intro W φ w hG hI vs hr hcx;simp[qE]at g;split at g
   ·rename_i x hx;obtain⟨fn,c,rs,f1,f2,f3,f4,rfl⟩:=Lo hx;simp only at g;split at g
    ·rename_i hle;have hle:=bD.1 hle;have hlen:=hr.len;refine⟨⟨fn,f1,by simp[f2],f3⟩, ?_⟩;unfold Zr at g;split at g
     ·rename_i X e1 d1 n1 hex;have hsz:(vs.toArray++Array.replicate (fn.ntmps-vs.toArray.size) undef).size=fn.ntmps:=by
       simp;omega
      have ckok:CkOk P Gl B (Ec (qE (fiOf P Gl) C dp) J) U:=⟨ih J U r,λyk' Γ' h=>ih yk' Γ' h⟩;refine callsIn_wide.1 (callsIn_of_wp_marks (F:=RF none) (n:=0) f1 f2 trivial (wpIn_mono ((jp hm ckok c).1 none 0 w.heap.size W φ _ w hI hG hcx (λl hl=>by cases hl) (.inl rfl) (δ _) b (pz args .e .leaf) d n _ w X e1 d1 n1 hex ⟨⟨φ,cG.refl,lR hr _⟩,hsz,[],rfl,asQ,λD hD=>by cases hD⟩) λex a w' R=>?_));have fin:(∀id,X ≠ .exit id)→Rl B w.heap.size φ (HP.ov b d).get w fn.ntmps e1 (HP.ov b d1).get a w'→LeavesInM (RF none) 0 P fn a.tmps (JD B φ (HP.ov b d).get w (HP.ov b d').get v) a.defers .returning w':=λhX p=>by
       obtain⟨ψ,hs,hE⟩:=p.ex;obtain⟨ms,m1,m2,m3⟩:=p.df;have hres:∃l,eT e1 (HP.ov b d1).get rs=some l∧v=oT l∧d'=d1:=by
        split at g
        ·exact(hX _ rfl).elim
        ·split at g
         next l hl=>injection g with y1 y2 y3;exact⟨l,hl,y1.symm,y2.symm⟩
         ·cases g
       obtain⟨l,hl,rfl,rfl⟩:=hres;rw[m1];refine dS hI ms w' hs m2 m3 λw2 T=>?_;obtain⟨u,r1,r2⟩:=eK (T.2.1 _ hI) hE f4 hl;exact⟨u,r1,u,ψ,rfl,T,r2⟩
      cases ex with
      |normal=>obtain⟨rfl,p⟩:=R;exact fin (λid e=>by cases e) p
      |ret=>obtain⟨rfl,p⟩:=R;exact fin (λid e=>by cases e) p
      |exit id=>obtain⟨rfl,_⟩:=R;cases g
      |goto l=>exact R.elim
      |panic ch=>exact R.elim
      |outgrown=>exact R.elim
     ·cases g
    ·cases g
   ·cases g
def φN:Gx:=⟨λ_ _=>none,λ_=>none,λ_=>none⟩
def ajO (w:World):Inv w.heap.size ⟨w,φN⟩ φN (HP.ov .nil .leaf).get w :=
 ⟨Below.refl _ _,Kp.refl _,Gx.le.refl _,λ_ h=>(by cases h),δ _,λ_=>⟨λ_=>rfl,rfl,rfl⟩,λ_ _ _ _ _ _ h=>(by cases h)⟩
end
