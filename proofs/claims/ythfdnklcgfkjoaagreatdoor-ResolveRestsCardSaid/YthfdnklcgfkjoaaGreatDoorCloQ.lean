/- Closed runs. -/
import Derived.Test.YthfdnklcgfkjoaaGreatDoorCloP
import Derived.Maps.RangeRun
set_option linter.all false
namespace Go.Proofs.YthfdnklcgfkjoaaGreatDoor.Clo
open Go Go.RowKit Go.MapKept
variable [SymVal]
section
variable {P:Program}{B:Nat}{J:W0}{φ:Gx}{h:Pos→EO}{w:World}{o:Oper}{a:Act}
variable{v:Value}{t:TypeId}{x:Operand}{q:EqK}{C:List TV}{f:Pos}{out:TV}{wr:Option (Pos×EO)}
def Li {R:List ME}{f:Array MapEntry}(hd:iT φ R f.toList){C:List CK}{agg:Bool}{k:PV}(hk:bg φ k=some v){j:Nat}{e:ME}{m:MapEntry}(he:R[j]? = some e)(P:f.toList[j]? = some m)(J:eqP C agg k e.key=some true):(((f[j]?).map (·.key)).getD v)=v∧f[j]? = some m∧bg φ e.val=some m.val∧m.born=e.born∧eqP C agg k k=some true:=by
 obtain⟨m2,r,l,U,T⟩:=hd.2 j e he;rw[P]at r;cases r;have p:=aeE J;subst p;rw[hk]at l;injection l with l;have g:f[j]? = some m:=by rw[←Array.getElem?_toList];exact P
 exact⟨by rw[g];exact l.symm,g,U,T,J⟩
def adv (hI:Inv B J φ h w){kt e:TypeId}{y z:Operand}(ho:o.op = .mapUpdate t x y z∨o.op = .insert t x y z)(hu:P.underlying t=some (.map kt e))(hkey:AL P kt=some q)(hv:RTs φ C [a.eval x,a.eval y,a.eval z])(p:(aj7 q C f).run h=some (out,wr)):OkX P B J φ h w o a out wr:=by
 obtain⟨ks,agg,rfl,hk⟩:=Cr hkey;have hex:∀{w'},(Instr.mapUpdate t (a.eval x) (a.eval y) (a.eval z)).run P w = .ok () w'→(execOp a.eval o).run P w = .ok .skip w':=λhr=>by unfold execOp;obtain ho|ho:=ho <;> simp[ho,hr]
 unfold aj7 at p;split at p
 ·obtain⟨v1,ws,e1,hr1,hr2⟩:=hv.cons;obtain⟨v2,ws2,e2,g,hr4⟩:=hr2.cons;obtain⟨v3,e3,r⟩:=hr4.one;subst e3;subst e2;simp at e1;obtain⟨e1,e2,e3⟩:=e1;subst e1;subst e2;subst e3;split at p
  next ks' agg' m kv v heq=>
   injection heq with h1 h2;subst h1;subst h2;have g:bg φ kv=some (a.eval y):=g;have r:bg φ v=some (a.eval z):=r;cases R:xP ks agg kv with
   |false=>rw[R]at p;cases p
   |true=>
    rw[R,ξ]at p;simp[Q.run]at p;split at p
    ·rename_i es clock hm;obtain⟨l,vs,q1,qo,ev,qB,T,U⟩:=AH hI hm hr1;split at p
     ·rename_i i e' hf;cases p;obtain⟨o',p1,p2⟩:=qV (w:=w) hk g U hf;obtain⟨j,m',rfl,h2,h3,h4,h5⟩:=p2;obtain⟨y1,y2,y3,y4,y5⟩:=Li U g h3 h4 h5;subst h2;refine Ew (hex ?_) (Gx.le.refl φ) (hI.setM q1 qo qB (c':=clock) (vs':=vs.modify (0+j) λe=>{ e with key:=a.eval y,val:=a.eval z }) T (CN U λe m _ _ _ _ hb=>⟨g,r,hb⟩));have y1':(((vs[0+j]?).map (·.key)).getD (a.eval y))=a.eval y:=by rw[I'];exact y1
      simp only[Instr.mapUpdate,ν,ε hu,ev,Θ,M_ T,je hk g R,p1,y1',LS y5 g,D? _ T]
     next hf=>cases p;obtain⟨o',p1,p2⟩:=qV (w:=w) hk g U hf;have p2:o'=none:=p2;subst p2;refine Ew (hex ?_) (Gx.le.refl φ) (hI.setM q1 qo qB (c':=clock+1) (vs':=vs.push { key:=a.eval y,val:=a.eval z,born:=clock }) T (Ij U g r rfl));simp[Instr.mapUpdate,ν,ε hu,ev,M_ T,je hk g R,p1,D? _ T]
     ·cases p
    ·cases p
  ·cases p
 ·cases p
def ai3 (hI:Inv B J φ h w){kt e:TypeId}{y:Operand}(ho:o.op = .mapEntry t x y)(hu:P.underlying t=some (.map kt e))(hkey:AL P kt=some q){z:PV}(hz:eQ P e=some z)(hv:RTs φ C [a.eval x,a.eval y])(p:(Ya q z C f).run h=some (out,wr)):OkX P B J φ h w o a out wr:=by
 obtain⟨ks,agg,rfl,hk⟩:=Cr hkey;have hex:∀{v w'},(Instr.mapEntry t (a.eval x) (a.eval y)).run P w = .ok v w'→(execOp a.eval o).run P w = .ok (.value v) w':=λhr=>by unfold execOp;simp[ho,hr]
 unfold Ya at p;split at p
 ·obtain⟨v1,ws,e1,hr1,hr2⟩:=hv.cons;obtain⟨v2,e2,g⟩:=hr2.one;subst e2;simp at e1;obtain⟨e1,e2⟩:=e1;subst e1;subst e2;split at p
  next ks' agg' m kv heq=>
   injection heq with h1 h2;subst h1;subst h2;have g:bg φ kv=some (a.eval y):=g;cases r:xP ks agg kv with
   |false=>rw[r]at p;cases p
   |true=>
    rw[r,ξ]at p;simp[Q.run]at p;split at p
    ·rename_i es clock hm;obtain⟨l,vs,q1,qo,ev,qB,R,T⟩:=AH hI hm hr1;split at p
     ·rename_i i e' hf;cases p;obtain⟨o',p1,U⟩:=qV (w:=w) hk g T hf;obtain⟨j,m',rfl,h2,h3,h4,h5⟩:=U;obtain⟨y1,y2,y3,y4,y5⟩:=Li T g h3 h4 h5;subst h2;have y1':(((vs[0+j]?).map (·.key)).getD (a.eval y))=a.eval y:=by rw[I'];exact y1
      have y2':(((vs[0+j]?).map λx=>(x.born:Int)).getD 0)=Int.ofNat e'.born:=by rw[I',y2];show(m'.born:Int)=_;rw[y4];rfl
      refine g9 (v :=.tuple #[m'.val,.int .i64 (Int.ofNat e'.born)]) (hex ?_) (Gx.le.refl φ) (hI.setM q1 qo qB (c':=clock) (vs':=vs.modify (0+j) λe=>{ e with key:=a.eval y }) R (CN T λe m _ _ _ hvv hb=>⟨g,hvv,hb⟩)) ⟨_,bU y3 (bU (cE _ _) rfl),rfl⟩;simp only[Instr.mapEntry,ν,ε hu,ev,Θ,M_ R,je hk g r,p1,y1',LS y5 g,D? _ R,Z',goInt];rw[y2']
     next hf=>cases p;obtain⟨o',p1,U⟩:=qV (w:=w) hk g T hf;have U:o'=none:=U;subst U;obtain⟨zv,hzr,hzd⟩:=OR hz w;refine g9 (v :=.tuple #[zv,.int .i64 (Int.ofNat clock)]) (hex ?_) (Gx.le.refl φ) (hI.setM q1 qo qB (c':=clock+1) (vs':=vs.push { key:=a.eval y,val:=zv,born:=clock }) R (Ij T g (hzd φ) rfl)) ⟨_,bU (hzd φ) (bU (cE _ _) rfl),rfl⟩;simp only[Instr.mapEntry,ν,ε hu,ev,Θ,M_ R,je hk g r,p1,hzr,D? _ R,Z',goInt];rfl
     ·cases p
    ·cases p
  ·cases p
 ·cases p
def H4:∀{l:List ME} {g:List MapEntry} {b i n:Nat},iT φ l g→X0 b l i=some n→∃j,n=i+j∧g.findIdx? (λe=>(e.born:Int) == (b:Int))=some j
 |[],g,b,i,n,_,h=>by cases h
 |e::l,[],b,i,n,hd,h=>by have:=hd.1;simp at this
 |e::l,m::g,b,i,n,hd,h=>by
  obtain⟨_,_,p,C⟩:=nA hd;simp[X0]at h;cases f:Nat.beq e.born b with
  |true =>rw[f]at h;cases h;have f:=q0.1 f;exact⟨0,rfl,by simp[List.findIdx?_cons,p,f]⟩
  |false=>
   rw[f]at h;obtain⟨j,rfl,r⟩:=H4 C h;have f:=E_ f;have f:¬((e.born:Int)=(b:Int)):=Ω
   exact⟨j+1,Ω,by simp[List.findIdx?_cons,p,f];simpa using r⟩
def ai2 (hI:Inv B J φ h w){y z:Operand}(ho:o.op = .entryStore t x y z)(hv:RTs φ C [a.eval x,a.eval y,a.eval z])(g:(X9 C f).run h=some (out,wr)):OkX P B J φ h w o a out wr:=by
 unfold X9 at g;split at g
 ·obtain⟨v1,ws,e1,hr1,hr2⟩:=hv.cons;obtain⟨v2,ws2,e2,hr3,hr4⟩:=hr2.cons;obtain⟨v3,e3,r⟩:=hr4.one;subst e3;subst e2;simp at e1;obtain⟨e1,e2,e3⟩:=e1;subst e1;subst e2;subst e3;split at g
  next m k b v=>
   have r:bg φ v=some (a.eval z):=r;have hb:=dg hr3;simp[Q.run]at g;split at g
   ·rename_i es clock hm;obtain⟨l,U,q1,qo,ev,qB,q3,q4⟩:=AH hI hm hr1;split at g
    ·rename_i i hf;cases g;obtain⟨j,T,hj⟩:=H4 q4 hf;rw[I']at T;subst T;have hj':U.findIdx? (λe=>(e.born:Int) == (b:Int))=some i:=by have:=List.findIdx?_toArray (p:=λe=>((e:MapEntry).born:Int) == (b:Int)) (l:=U.toList);rw[hj]at this;simpa using this
     refine Ew (w':={ w with heap:=w.heap.setIfInBounds l.b (.map (U.modify i λe=>{ e with val:=a.eval z }) clock) }) ?_ (Gx.le.refl φ) (hI.setM q1 qo qB q3 (CN q4 λe m _ _ hkk _ hb=>⟨hkk,r,hb⟩));unfold execOp;have R:=D? (P:=P) (.map (U.modify i λe=>{ e with val:=a.eval z }) clock) q3;have hb':a.eval y = .int k (b:Int):=hb;simp[ho,ev,Instr.entryStore,M_ q3,hb',asInt,asIntOf,hj',R]
    ·cases g
   ·cases g
  ·cases g
 ·cases g
def aiY (p:Inv B J φ h w){kt e:TypeId}(ho:o.op = .range t x)(hu:P.underlying t=some (.map kt e))(U:h f = .none)(hv:RTs φ C [a.eval x])(j:(X6 C f).run h=some (out,wr)):OkX P B J φ h w o a out wr:=by
 unfold X6 at j;split at j
 ·obtain⟨v,e1,hr⟩:=hv.one;cases e1;have mk:∀{ob:Obj} {o':EO},(execOp a.eval o).run P w = .ok (.value (.pointer (some ⟨w.heap.size,0,none⟩))) (w.alloc ob)→iZ (φ.add f ⟨w.heap.size,0,0⟩) (w.alloc ob) B f o'→i5 o'=false→out = .pv (.one (.ptr f 0 0))→wr=some (f,o')→OkX P B J φ h w o a out wr:=λ{ob o'} r T R h1 h2=>by
   subst h1;subst h2;refine g9 r (p.le_add U _) (p.new U (l:=⟨w.heap.size,0,0⟩) rfl T R) ?_ R;show den _ (.ptr f 0 0)=_;simp[den,Gx.add_self]
  have one:∀g,0<g→(φ.add f ⟨w.heap.size,0,0⟩).loc f g=none:=λg hg=>by simp only[Gx.add,h?];rw[ο Ω]
  split at j
  ·cases j;refine mk (ob :=.mapIter none 0 #[] 0) (o' :=.mit none 0 [] 0) ?_ ⟨one,⟨w.heap.size,0,0⟩,Gx.add_self _ _ _,p.size,B_ w _⟩ rfl rfl rfl;unfold execOp;simp[ho,rO hr,Instr.range,ε hu]
  next m=>
   simp[Q.run]at j;split at j
   next es clock hm=>cases j;obtain⟨l,vs,q1,qo,ev,qB,q3,q4⟩:=AH p hm hr;refine mk (ob :=.mapIter (some l.b) clock #[] clock) (o' :=.mit (some m) clock [] clock) ?_ ⟨one,⟨w.heap.size,0,0⟩,Gx.add_self _ _ _,p.size,l,(p.le_add U _).loc _ _ _ q1,B_ w _⟩ rfl rfl rfl;unfold execOp;simp[ho,ev,Instr.range,ε hu,M_ q3]
   ·cases j
  ·cases j
 ·cases j
def DP:∀{j:List ME} {g:List MapEntry} {b:Nat} {e:ME},iT φ j g→N7 b j=some e→∃m,g.find? (λx=>x.born == b)=some m∧bg φ e.key=some m.key∧bg φ e.val=some m.val
 |[],g,b,e,_,h=>by cases h
 |x::j,[],b,e,hd,h=>by have:=hd.1;simp at this
 |x::j,m::g,b,e,hd,h=>by
  obtain⟨J,C,l,r⟩:=nA hd;simp[N7]at h;cases f:Nat.beq x.born b with
  |true =>rw[f]at h;cases h;exact⟨m,by simp[l,q0.1 f],J,C⟩
  |false=>
   rw[f]at h;obtain⟨p,q1,q2⟩:=DP r h;have f:=E_ f;have:(m.born == b)=false:=by rw[l];simpa using f
   exact⟨p,by rw[List.find?_cons,this];exact q1,q2⟩
def Hv:∀{l:List Nat} {b:Nat},adS l=some b→l.getLast? = some b
 |[],_,h=>by cases h
 |[x],b,h=>h
 |x::y::l,b,h=>by have:=Hv (l:=y::l) h;rw[List.getLast?_cons_cons];exact this
def Cs (_:Inv B J φ h w){k:Pos}{g:Nat}(p:RT φ (.pv (.one (.ptr k g 0))) v){l:Loc}(r:φ.loc k 0=some l)(j:∀g,0<g→φ.loc k g=none):v = .pointer (some ⟨l.b,0,none⟩):=by
 obtain⟨P,f,C⟩:=gN p;cases g with
 |zero =>rw[r]at f;injection f with f;rw[C,f]
 |succ g=>rw[j _ Ω]at f;cases f
def jz {m:Option Nat}{r f c:Nat}{seen:Array Nat}(g:w.heap[r]? = some (.mapIter m f seen c)):(getObj r).run P w = .ok (.mapIter m f seen c) w:=by simp[getObj,Sem.run,g]
def amE (hI:Inv B J φ h w)(ho:o.op = .entry x)(hv:RTs φ C [a.eval x])(p:(ake C f).run h=some (out,wr)):OkX P B J φ h w o a out wr:=by
 unfold ake at p;split at p
 ·obtain⟨v,e1,hr⟩:=hv.one;cases e1;have fin:∀{m:Pos} {l lm:Loc} {b j r:Nat} {seen:Array Nat},(aj2 m b j).run h=some (out,wr)→φ.loc m 0=some lm→a.eval x = .pointer (some ⟨l.b,0,none⟩)→w.heap[l.b]? = some (.mapIter (some lm.b) r seen j)→seen.back? = some b→OkX P B J φ h w o a out wr:=by
   intro m l lm b j r seen p hlm hx hit T;unfold aj2 at p;simp[Q.run]at p;split at p
   ·rename_i es clock hm;cases hc:Nat.beq clock j with
    |false=>rw[hc]at p;cases p
    |true=>
     rw[hc,ξ]at p;have hc:=q0.1 hc;subst hc;split at p
     ·rename_i e hf;cases p;have R:=hI.obj m;rw[hm]at R;obtain⟨_,l2,vs,q1,q2,q3,q4⟩:=R;rw[hlm]at q1;cases q1;obtain⟨me,z1,U,z3⟩:=DP q4 hf;have z1':vs.find? (λx=>x.born == b)=some me:=by rw[←Array.find?_toList];exact z1
      refine ay hI (v :=.tuple #[me.key,me.val]) ?_ ⟨_,bU U (bU z3 rfl),rfl⟩;unfold execOp;simp[ho,hx,Instr.entry,jz hit,M_ q3,T,z1']
     ·cases p
   ·cases p
  split at p
  next k g=>
   simp[Q.run]at p;have R:=hI.obj k;split at p
   ·rename_i m r seen j hk;rw[hk]at R;obtain⟨g1,l,q1,q2,lm,q3,q4⟩:=R;split at p
    next b hb=>exact fin p q3 (Cs hI hr q1 g1) q4 (by rw[List.back?_toArray];exact Hv hb)
    ·cases p
   next m r bs b c hk=>rw[hk]at R;obtain⟨g1,l,lm,seen,j,n,q1,q2,q3,q4,_,_,_,q8⟩:=R;obtain⟨z1,U⟩:=q8 (b,c) rfl;have U:j=c:=U;subst U;exact fin p q3 (Cs hI hr q1 g1) q4 z1
   ·cases p
  ·cases p
 ·cases p
def xz {seen:List Nat}:∀{p:List ME} {g:List MapEntry},iT φ p g→iT φ (yb seen p) (g.filter λe=>!seen.toArray.contains e.born)
 |[],[],_=>⟨rfl,λi e h=>by simp[yb]at h⟩
 |[],_::_,hd=>by have:=hd.1;simp at this
 |_::_,[],hd=>by have:=hd.1;simp at this
 |e::p,m::g,hd=>by
  obtain⟨R,P,C,J⟩:=nA hd;have j:=xz (seen:=seen) J;have f:seen.any (Nat.beq e.born)=seen.toArray.contains m.born:=by
   rw[C,List.contains_toArray,List.contains_eq_any_beq];congr 1;funext y;cases r:Nat.beq e.born y with
   |true=>simp[q0.1 r]
   |false=>simp[E_ r]
  simp only[yb,asu];rw[f];cases T:seen.toArray.contains m.born with
  |true=>simpa using j
  |false=>
   simp only[S',m_,h?];refine⟨by rw[q_,q_,j.1],λi x l=>?_⟩;cases i with
   |zero =>simp at l;subst l;exact⟨m,rfl,R,P,C⟩
   |succ i=>simpa using j.2 i x (by simpa using l)
def ai0 (hI:Inv B J φ h w)(ho:o.op = .next x false){t:TV}(hr:RT φ t (a.eval x))(f:Hc h t=some (out,wr)):OkX P B J φ h w o a out wr:=by
 have hex:∀{v w'},(Instr.next (a.eval x) false o.type).run P w = .ok v w'→(execOp a.eval o).run P w = .ok (.value v) w':=λhr=>by unfold execOp;simp[ho,hr]
 have over:RT φ Fu (.tuple #[.bool false]):=⟨[.bool false],rfl,rfl⟩;unfold Hc at f;split at f
 next it g=>
  have T:=hI.obj it;split at f
  next since seen stepped hk=>cases f;rw[hk]at T;obtain⟨g1,l,q1,q2,q3⟩:=T;refine ay hI (hex ?_) over;rw[Cs hI hr q1 g1];simp[Instr.next,jz q3]
  next m since seen sp hk=>
   rw[hk]at T;obtain⟨g1,l,q1,q2,lm,q3,q4⟩:=T;split at f
   ·rename_i es clock hm;have hom:=hI.obj m;rw[hm]at hom;obtain⟨_,l2,C,y1,y2,y3,y4⟩:=hom;rw[q3]at y1;cases y1;have r:=xz (seen:=seen) y4;have hfl:(C.filter λe=>!seen.toArray.contains e.born).toList=C.toList.filter λe=>!seen.toArray.contains e.born:=by simp
    rw[←hfl]at r;split at f
    ·rename_i hus;rw[hus]at r;have hnil:(C.filter λe=>!seen.toArray.contains e.born) = #[]:=by
      apply g?;rw[←Array.length_toList,r.1];rfl
     cases j:(seen.isEmpty||es.isEmpty||es.any (λe=>Nat.blt e.born sp))with
     |false=>rw[j]at f;cases f
     |true=>
      rw[j,ξ]at f;cases f;have hno:(!seen.toArray.isEmpty && !C.isEmpty&&C.all (·.born≥sp))=false:=by
       simp only[ar6]at j;rcases j with(j|j)|j
       ·have:seen=[]:=by simpa using j
        subst this;rfl
       ·have:es=[]:=by simpa using j
        subst this;have:C = #[]:=by apply g?;rw[←Array.length_toList,y4.1];rfl
        subst this;simp
       ·obtain⟨e,he,U⟩:=List.any_eq_true.1 j;obtain⟨i,hi⟩:=v? he;obtain⟨p,z1,_,_,z4⟩:=y4.2 i e hi;rw[asG];right;rw[Bool.eq_false_iff];intro R;have:=atb.1 R p (U_.1 (M? z1));have U:=cD.1 U;simp at this;omega
      refine ay hI (hex ?_) over;rw[Cs hI hr q1 g1];simp only[Instr.next,ν,jz q4,Θ,M_ y3,hno,hnil];simp[Question.forced]
    ·rename_i e hus;rw[hus]at r;cases j:(Nat.blt e.born since&&Nat.blt e.born sp)with
     |false=>rw[j]at f;cases f
     |true=>
      rw[j,ξ]at f;cases f;simp[cD]at j;obtain⟨p,z1,z2,z3,z4⟩:=r.2 0 e rfl;have hone:(C.filter λe=>!seen.toArray.contains e.born) = #[p]:=by
       apply i_;have hl:=r.1;revert z1 hl;generalize (C.filter λe=>!seen.toArray.contains e.born).toList=L;intro z1 hl;match L,hl with
       |[y],_=>simp at z1;rw[z1]
      have hmem:p∈C:=by
       have:p∈(C.filter λe=>!seen.toArray.contains e.born):=by rw[hone];simp
       exact(Array.mem_filter.1 this).1
      have hno:(!seen.toArray.isEmpty && !C.isEmpty&&C.all (·.born≥sp))=false:=by rw[asG];right;rw[Bool.eq_false_iff];intro R;have:=atb.1 R p hmem;simp at this;omega
      have U:p.born<since:=Ω
      refine g9 (hex (v :=.tuple #[.bool true,p.key,p.val]) (w':={ w with heap:=w.heap.setIfInBounds l.b (.mapIter (some lm.b) since (seen.toArray.push p.born) clock) }) ?_) (Gx.le.refl φ) (hI.setO q1 g1 (ob :=.mapIter (some lm.b) since seen.toArray sp) q4 rfl ⟨g1,l,q1,q2,lm,q3, ?_⟩) ⟨_,bU rfl (bU z2 (bU z3 rfl)),rfl⟩
      ·rw[Cs hI hr q1 g1];have hset:(setObj l.b (.mapIter (some lm.b) since (seen.toArray.push p.born) clock)).run P w = .ok () { w with heap:=w.heap.setIfInBounds l.b (.mapIter (some lm.b) since (seen.toArray.push p.born) clock) }:=by
        simp[setObj,Sem.run,q4]
       have hge:¬since≤p.born:=Ω
       simp only[Instr.next,ν,jz q4,Θ,M_ y3,hno,hone];simp only[List.push_toArray]at hset⊢;simp[U,hge,Question.forced,hset]
      ·rw[(MapKept.heap_set q4).1,z4];simp
    ·cases f
   ·cases f
  ·cases f
 ·cases f
end
