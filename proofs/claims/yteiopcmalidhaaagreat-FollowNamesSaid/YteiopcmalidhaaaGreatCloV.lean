/- Closed runs. -/
import Derived.Test.YteiopcmalidhaaaGreatCloQ
import Derived.Lib.MakeNoZero
import Derived.Lib.UnsafeStr
import Derived.Laws.Externs
import Derived.Lib.Bytealg
import Derived.KernelRfl
import Derived.RangeFuncCalls
import Derived.RangeFuncLeaves
import Derived.OrdersIn
import Derived.LoopNIn
import Derived.LoopN
import Derived.RangeFuncIn
import Derived.RangeFuncRecord
set_option linter.all false
namespace Go.Proofs.YteiopcmalidhaaaGreat
namespace Clo
open Go Go.RowKit
variable [SymVal]
section
variable {P:Program}{B:Nat}{T:W0}{φ:Gx}{h:Pos→EO}{w:World}{o:Oper}{a:Act}
def Er {s:Nat}:∀{g:List Nat} {J:List TV} {i:Nat} {l:List (List CV)} {f:List Value},NE s i g J=some l→RTs φ J f→g=List.range' i f.length∧l.length=f.length∧(∀v∈f,v.cells.size=s)∧aV φ l.flatten=some (f.map λv=>v.cells.toList).flatten∧∀a∈l,a.length=s
 |[],[],i,l,f,h,hr=>by cases h;rw[hr.nil];exact⟨rfl,rfl,(λv hv=>by cases hv),rfl,λa ha=>by cases ha⟩
 |j::js,.pv p::J,i,l,f,h,hr=>by
  obtain⟨v,ws,rfl,h1,h2⟩:=hr.cons;simp[NE]at h;cases r:(Nat.beq i j&&Nat.beq p.cells.length s)with
  |false=>rw[r]at h;cases h
  |true=>
   rw[r,G']at h;simp at r;obtain⟨rfl,c2⟩:=r;split at h
   ·rename_i l' hl;cases h;obtain⟨q1,q2,q3,U,T⟩:=Er hl h2;have R:=cM (φ:=φ) (p:=p) (v:=v) h1;refine⟨by rw[q1,r_,U_],by simp[q2],λu C=>?_, ?_,λb P=>?_⟩
    ·obtain rfl|C:=C'.1 C
     ·rw[←Array.length_toList,aY R,c2]
     ·exact q3 u C
    ·rw[D_,b?,D_];exact ct R U
    ·obtain rfl|P:=C'.1 P
     ·exact c2
     ·exact T b P
   ·cases h
 |[],_::_,_,_,_,h,_=>by simp[NE]at h
 |_::_,[],_,_,_,h,_=>by simp[NE]at h
 |_::_,.unk::_,_,_,_,h,_=>by simp[NE]at h
 |_::_,.tup _::_,_,_,_,h,_=>by simp[NE]at h
def GT (f:Operand→Value):∀(l:List (Nat×Operand)) (i:Nat),l.map (·.1)=List.range' i (l.map λp=>f p.2).length→l.map (λp=>(p.1,f p.2))=(List.range' i (l.map λp=>f p.2).length).zip (l.map λp=>f p.2)
 |[],i,_=>rfl
 |p::l,i,h=>by simp only[b?,r_,U_,I']at h;simp only[b?,r_,U_,aiD,I',χ,I_];exact⟨h.1,GT f l (i+1) h.2⟩
variable{f:Pos}{J:List TV}{out:TV}{wr:Option (Pos×EO)}
def PC {b N s n:Nat}{cap:Option Nat}(g:xb cap n N 0=true):RT (φ.add f ⟨b,N,s⟩) (.pv (.one (.sl f 0 0 n cap))) (.slice (some ⟨b,0,none⟩) n (gk cap N 0)):=by show den _ (.sl f 0 0 n cap)=_;simp[den,Gx.add_self,g]
def ae3 (hI:Inv B T φ h w){t e:TypeId}{len:Nat}{parts:Array (Nat×Operand)}(ho:o.op = .buildSlice t len parts)(hu:P.underlying t=some (.slice e)){z:PV}(hz:dq P e=some z)(hzs:z.cells.length=ah P e)(hs0:ah P e≠0)(hf:h f = .none)(hv:RTs φ J ((parts.toList.map (·.2)).map a.eval))
  (hq:(ac3 e (ah P e) len z.cells (parts.toList.map (·.1)) J f).run h=some (out,wr)):OkX P B T φ h w o a out wr:=by
 unfold ac3 at hq;split at hq
 next l hl=>
  cases hc:(Nat.ble l.length len&&Nat.ble (len*ah P e) 16777216)with
  |false=>rw[hc]at hq;cases hq
  |true=>
   rw[hc,G']at hq;simp[bf]at hc;obtain⟨c1,c2⟩:=hc;cases hq;have hv':RTs φ J (parts.toList.map λp=>a.eval p.2):=by simpa[W?,Function.comp_def]using hv
   obtain⟨q1,q2,q3,q4,q5⟩:=Er hl hv';obtain⟨i,zv,h1,h2,h3⟩:=fg hz;have hzd:=cM (h3 φ);have C:zv.cells.size=ah P e:=by rw[←Array.length_toList,aY hzd,hzs]
   have hzl:zv.cells.toList.length=ah P e:=by rw[ω];exact C
   have his:i.size=ah P e:=by simp[ah,h1]
   have hzf:=Cz zv.cells len Ω;have hzz:((Array.range (len*zv.cells.size)).map (zv.cells[· % zv.cells.size]!)).size=len*ah P e:=by simp[C]
   obtain⟨r,e1,e2⟩:=tA (ah P e) (parts.toList.map λp=>a.eval p.2) 0 ((Array.range (len*zv.cells.size)).map (zv.cells[· % zv.cells.size]!)) q3 (by rw[hzz,Z',←q2];exact g_ _ c1);rw[←GT a.eval parts.toList 0 q1]at e1;rw[hzf,aiv,t?,t_,Z',←q2,OK hzl _ _ c1]at e2;have U:∀b∈l++List.replicate (len-l.length) z.cells,b.length=ah P e:=λb hb=>by
    obtain hb|hb:=O'.1 hb
    ·exact q5 b hb
    ·rw[aiz hb,hzs]
   have hd:aV φ (l++List.replicate (len-l.length) z.cells).flatten=some r.toList:=by rw[ajw,e2];exact ct q4 (zd hzd _)
   have hll:(l++List.replicate (len-l.length) z.cells).length=len:=by simp;omega
   have hsz:r.size=len*ah P e:=by rw[←Array.length_toList,aY hd,fS U,hll]
   have hlen:len≤16777216:=Θ (Nat.le_mul_of_pos_right len Ω) c2;obtain⟨p1,p2⟩:=hI.newR hf (e:=e) (s:=ah P e) (N:=len) (l:=l++List.replicate (len-l.length) z.cells) (vs:=r.toList) (arr:=r) (fr:=(0,0)) (fz :=.no) Ω U hd (λj u hu=>by simpa using hu) hsz Ω Ω rfl;rw[hll]at p2;refine fD (v :=.slice (some ⟨w.heap.size,0,none⟩) len len) ?_ p1 p2 (PC (cap:=some len) rfl);have hne:len*ah P e=0∨len*ah P e≠0:=Ω
   have hbig:¬len*i.size>2^24:=by rw[his];omega
   have g:(parts.map λp=>(p.1,a.eval p.2)).toList=parts.toList.map λp=>(p.1,a.eval p.2):=by simp
   unfold execOp;by_cases h0:len*ah P e=0
   ·have R:((Array.range (len*ah P e)).map ((#[]:Array Value)[· % (#[]:Array Value).size]!))=((Array.range (len*zv.cells.size)).map (zv.cells[· % zv.cells.size]!)):=by
     rw[C,h0];exact Array.ext Ψ λj hj _=>by simp at hj
    simp only[ho,Instr.buildSlice,ξ,ε hu,Δ,az hs0];rw[B' Ω];simp only[h0,h?,ξ,a_,Δ];rw[h0]at R;rw[R,g,e1];simp[Go.newRow]
   ·simp only[ho,Instr.buildSlice,ξ,ε hu,Δ,az hs0];rw[B' Ω];have hzr:(zeroValue e).run P w = .ok zv w:=by simp[zeroValue,typeInfo,h1,h2]
    simp only[h0,ajp,ξ,a_,Δ,hzr];rw[C]at e1;rw[C,g,e1];simp[Go.newRow]
 ·cases hq
def aeZ (hI:Inv B T φ h w){t e:TypeId}{x y:Operand}(ho:o.op = .makeSlice t x y)(hu:P.underlying t=some (.slice e)){z:PV}(hz:dq P e=some z)(p:z.cells.length=ah P e)(hs0:ah P e≠0)(hf:h f = .none)(hv:RTs φ J [a.eval x,a.eval y])
  (g:(acZ e (ah P e) (vC P e) z.cells J f).run h=some (out,wr)):OkX P B T φ h w o a out wr:=by
 unfold acZ at g;split at g
 ·obtain⟨v1,ws,e1,hr1,hr2⟩:=hv.cons;obtain⟨v2,e2,hr3⟩:=hr2.one;subst e2;simp at e1;obtain⟨e1,e2⟩:=e1;subst e1;subst e2;split at g
  next k1 n k2 c=>
   cases U:(Nat.ble n c&&Nat.ble c 16777216&&Nat.ble (c*vC P e) 16777216)with
   |false=>rw[U]at g;cases g
   |true=>
    rw[U,G']at g;simp[bf]at U;obtain⟨⟨c1,c2⟩,c3⟩:=U;cases g;obtain⟨i,zv,h1,h2,h3⟩:=fg hz;have r:=cM (h3 φ);have hzv:zv.cells.size=ah P e:=by rw[←Array.length_toList,aY r,p]
    have C:i.size=ah P e:=by simp[ah,h1]
    have hib:i.bytes=vC P e:=by simp[vC,h1]
    have hzf:=Cz zv.cells c Ω;have hd:=zd r c;have R:∀b∈List.replicate c z.cells,b.length=ah P e:=λb hb=>by rw[aiz hb,p]
    obtain⟨p1,p2⟩:=hI.newR hf (e:=e) (s:=ah P e) (N:=c) (l:=List.replicate c z.cells) (vs:=(List.replicate c zv.cells.toList).flatten) (arr:=madeCells zv.cells (c*i.size)) (fr:=(0,0)) (fz :=.no) Ω R hd (λj u hu=>by
     rw[C,←hzv,←Array.getElem?_toList,madeCells,hzf];exact hu) (by rw[size_madeCells,C]) Ψ Ξ rfl
    rw[akj]at p2;refine fD (v :=.slice (some ⟨w.heap.size,0,none⟩) n c) ?_ p1 p2 (PC (cap:=some c) rfl);have hx:a.eval x = .int k1 (n:Int):=cR hr1;have hy:a.eval y = .int k2 (c:Int):=cR hr3;have hb':(i.bytes:Int)*(c:Int)≤281474976710656:=by
     have h:((c*vC P e:Nat):Int)≤16777216:=Ω
     rw[Int.natCast_mul,Int.mul_comm]at h;rw[hib];omega
    have:=run_make (P:=P) w t e i zv hu h1 h2 k1 k2 n c Ω Ω hb' Ω;unfold execOp;simp[ho,hx,hy,ξ,this,a_]
  ·cases g
 ·cases g
end
variable [SymVal]
section
variable {P:Program}{B:Nat}{T:W0}{φ:Gx}{h:Pos→EO}{w:World}{o:Oper}{a:Act}
variable{t e:TypeId}{w' :World}{cl:Call}{x:Operand}{J:List TV}{out:TV}{wr:Option (Pos×EO)}{fn:Func}{f:FuncId}{fr k:Pos}{arr:Array Value}{s g:Nat}{el:PT Ch}{fz:Fz}{l:Loc}
def Hl {tx ty:TypeId}(hu:P.underlying t=some (.slice e))(hs0:ah P e≠0){ad ax:Addr}{n c m c':Nat}{vs:List Value}(hfc:(loadCells ax (Nat.min m n*ah P e)).run P w = .ok vs.toArray w)(hst:(storeCells ad vs).run P w = .ok () w') :
  (Builtin.copy_ #[t,tx] ty #[.slice (some ad) n c,.slice (some ax) m c']).run P w = .ok (.int .i64 (Int.ofNat (Nat.min m n))) w':=by
 have hdef:Builtin.copy_ #[t,tx] ty #[.slice (some ad) n c,.slice (some ax) m c']=(do
   let .slice elem ←underlying t|stuck "copy: slice type expected"
   let cells ←loadCells ax (Nat.min m n*(←sizeOf elem))
   storeCells ad cells.toList
   pure (goInt (Nat.min m n))):=rfl
 rw[hdef];simp[ξ,ε hu,az hs0,hfc,hst,a_];rfl
def afc (hI:Inv B T φ h w){s:Operand}{tx e2:TypeId}(ho:o.op = .call cl)(hcl:cl.callee = .builtin .copy)(U:cl.args = #[s,x])(hty:cl.argTypes = #[t,tx])(hu:P.underlying t=some (.slice e))(hs0:ah P e≠0)(_hu2:P.underlying tx=some (.slice e2)){f:Pos}(hv:RTs φ J [a.eval s,a.eval x])(p:(ac6 (ah P e) false J f).run h=some (out,wr)):OkX P B T φ h w o a out wr:=by
 have hex:∀{v w'},(Builtin.copy_ #[t,tx] o.type #[a.eval s,a.eval x]).run P w = .ok v w'→(execOp a.eval o).run P w = .ok (.value v) w':=λhr=>by unfold execOp;simp[ho,resolve,hcl,U,hty,invoke,builtin,hr]
 unfold ac6 at p;split at p
 ·obtain⟨v1,ws,e1,hr1,hr2⟩:=hv.cons;obtain⟨v2,e2,hr3⟩:=hr2.one;subst e2;simp at e1;obtain⟨e1,e2⟩:=e1;subst e1;subst e2;split at p
  next k g R n cap=>
   obtain⟨lc,hl,ev⟩:=vO hr1;split at p
   ·rw[E_,bT]at p;cases p;refine aq hI (v :=.int .i64 0) (hex ?_) (cm _ _);rw[ev,dP hr3];simp[Builtin.copy_,ε hu,Builtin.lenOf,Builtin.firstCells,az hs0,storeCells,goInt]
   ·rename_i j g' C m cap';obtain⟨lx,hlx,ex⟩:=vO hr3;simp[Q.run]at p;split at p
    ·rename_i l hl2;obtain⟨q1,q2,vs,q3,q4⟩:=hI.rds hlx hl2;have hvl:vs.length=Nat.min m n*ah P e:=by rw[aY q3,fS q2,q1]
     have r:=T? (P:=P) w ⟨lx.b,C,none⟩ vs q4;rw[hvl]at r;split at p
     ·rw[bT]at p;cases p;have q1:0=Nat.min m n:=q1;have:vs=[]:=by
       apply U';rw[hvl,←q1,aiv]
      subst this;refine aq hI (v :=.int .i64 0) (hex ?_) (cm _ _);rw[ev,ex];have:=Hl (P:=P) (w:=w) (tx:=tx) (ty:=o.type) hu hs0 (ad:=⟨lc.b,R,none⟩) (ax:=⟨lx.b,C,none⟩) (n:=n) (m:=m) (c:=gk cap lc.n (R/lc.s)) (c':=gk cap' lx.n (C/lx.s)) (vs:=[]) r (w':=w) (by simp[storeCells]);rw[this,←q1];rfl
     ·rename_i a0 l0;simp[Q.run]at p;split at p
      next o' hw=>rw[sF]at p;cases p;obtain⟨arr,e',z1,z2,z3⟩:=hI.wrs hw q2 hl q3;refine fD (v :=.int .i64 (Int.ofNat (Nat.min m n))) (hex ?_) (Gx.le.refl φ) z3 (cm _ _) (j9 hw);rw[ev,ex];have hst:=j? P lc.b R e' vs 0 arr w z1 (by simpa using z2) (tF q3);simp only[F?]at hst;exact Hl (P:=P) (w:=w) hu hs0 r hst
      ·cases p
    ·cases p
   ·cases p
  ·cases p
 ·cases p
def R1 (z:Array Value):∀n,(Builtin.zeroCells z n).toList=(List.replicate n z.toList).flatten
 |0=>by simp[Builtin.zeroCells]
 |n+1=>by
  rw[List.replicate_succ',ajw,←R1 z n];simp only[Builtin.zeroCells,aiQ,Array.toList_range];rw[T_,List.range_add,D?];congr 1;simp only[D_,List.flatten_nil,m?,W?];refine ajg Ψ λi g j=>?_;have f:i<z.size:=by simpa using g
  simp[aiw f,f]
def afd (hI:Inv B T φ h w){z:PV}(ho:o.op = .call cl)(hcl:cl.callee = .builtin .clear)(l:cl.args = #[x])(U:cl.argTypes = #[t])(R:P.underlying t=some (.slice e))(hz:dq P e=some z){f:Pos}(hv:RTs φ J [a.eval x])(j:(ac7 z.cells J f).run h=some (out,wr)):OkX P B T φ h w o a out wr:=by
 have hex:∀{w'},(Builtin.clear_ #[t] o.type #[a.eval x]).run P w = .ok (.tuple #[]) w'→(execOp a.eval o).run P w = .ok (.value (.tuple #[])) w':=λhr=>by unfold execOp;simp[ho,resolve,hcl,l,U,invoke,builtin,hr]
 unfold ac7 at j;split at j
 ·obtain⟨v1,e1,C⟩:=hv.one;cases e1;split at j
  ·cases j;refine aq hI (v :=.tuple #[]) (hex ?_) ⟨[],rfl,rfl⟩;rw[dP C];simp[Builtin.clear_,ε R,a_]
  next k g off n cap=>
   obtain⟨lc,hl,ev⟩:=vO C;split at j
   ·cases j;refine aq hI (v :=.tuple #[]) (hex ?_) ⟨[],rfl,rfl⟩;rw[ev];simp[Builtin.clear_,ε R,a_]
   ·rename_i n;simp[Q.run]at j;split at j
    next o' hw=>cases j;obtain⟨i,v,h1,h2,h3⟩:=fg hz;have hd:=zd (cM (h3 φ)) (n+1);obtain⟨arr,e',z1,z2,z3⟩:=hI.wrs (x:=z.cells) (r:=List.replicate n z.cells) hw (λa ha=>Y' List.length (aiz (n:=n+1) ha)) hl hd;refine fD (v :=.tuple #[]) (hex ?_) (Gx.le.refl φ) z3 ⟨[],rfl,rfl⟩ (j9 hw);rw[ev];have p:=j? P lc.b off e' _ 0 arr w z1 (by simpa using z2) (tF hd);simp only[F?]at p;have e2:(Builtin.zeroCells v.cells (n+1)).toList=(List.replicate (n+1) v.cells.toList).flatten:=R1 _ _;simp[Builtin.clear_,ε R,ξ,zeroValue,typeInfo,h1,h2,e2,p]
    ·cases j
  ·cases j
 ·cases j
def afJ:(Extern.allGenericRows.lookup "internal/abi.NoEscape").isNone=true:=Φ
def afI:(Extern.allTypedRows.lookup "internal/abi.NoEscape").isNone=true:=Φ
def afH:Extern.allRows.lookup "internal/abi.NoEscape" = some Extern.AbiNoEscape.same:=Φ
def Gg (h:fn.name = "internal/abi.NoEscape"):Extern.find fn=some Extern.AbiNoEscape.same:=by simp only[Extern.find,h,A?.1 afJ,A?.1 afI,afH];rfl
def afG:(Extern.allGenericRows.lookup "internal/bytealg.MakeNoZero").isNone=true:=Φ
def afF:Extern.allTypedRows.lookup "internal/bytealg.MakeNoZero" = some Extern.BytealgMakeNoZero.makeNoZero:=Φ
def BT (h:fn.name = "internal/bytealg.MakeNoZero"):Extern.find fn=some (Extern.BytealgMakeNoZero.makeNoZero fn.params fn.resultTypes):=by simp only[Extern.find,h,A?.1 afG,afF];rfl
def afE:(Extern.allGenericRows.lookup "internal/bytealg.IndexByteString").isNone=true:=Φ
def afD:(Extern.allTypedRows.lookup "internal/bytealg.IndexByteString").isNone=true:=Φ
def afC:Extern.allRows.lookup "internal/bytealg.IndexByteString" = some Extern.BytealgIndexByte.indexByte:=Φ
def EQ (h:fn.name = "internal/bytealg.IndexByteString"):Extern.find fn=some Extern.BytealgIndexByte.indexByte:=by simp only[Extern.find,h,A?.1 afE,A?.1 afD,afC];rfl
def EZ {e:Array Value→Sem Value}(ho:o.op = .call cl)(hcl:cl.callee = .value (.func f))(hf:P.funcs[f]? = some fn)(hb:fn.body=none)(hname:fn.name ≠ "runtime.NumGoroutine")(hn:Extern.findNext fn=none)(he:Extern.find fn=some e){v:Value}(hr:(e (cl.args.map a.eval)).run P w = .ok v w'):(execOp a.eval o).run P w = .ok (.value v) w':=by have hc:=run_callFunc_extern (P:=P) hf (by simpa using hname) (by simp[hb]) hn he (cl.args.map a.eval) w;unfold execOp;simp[ho,resolve,hcl,Act.eval,Deferred.ofValue,invoke,hc,hr]
def M3 (hI:Inv B T φ h w)(ho:o.op = .call cl)(hcl:cl.callee = .value (.func f))(hf:P.funcs[f]? = some fn)(hb:fn.body=none)(hn:Extern.findNext fn=none)(he:fn.name = "internal/abi.NoEscape")(hv:RTs φ J (cl.args.toList.map a.eval))(hq:(Rx J fr).run h=some (out,wr)):OkX P B T φ h w o a out wr:=by
 unfold Rx at hq;split at hq
 ·cases hq;obtain⟨v,e1,hr⟩:=hv.one;have e2:cl.args.map a.eval = #[v]:=by
   apply m_;rw[aiQ,e1]
  exact aq hI (EZ ho hcl hf hb (by rw[he];decide) hn (Gg he) (by rw[e2];rfl)) hr
 ·cases hq
def H8 (c:Nat)(r:c<256):∀(l:List Nat) (i:Nat),cI l=true→Y1 c l i=if Lib.indexByte (l.map UInt8.ofNat) (UInt8.ofNat c) = -1 then -1 else Lib.indexByte (l.map UInt8.ofNat) (UInt8.ofNat c)+(i:Int)
 |[],i,_=>rfl
 |b::l,i,h=>by
  obtain⟨P,J⟩:=ge h;simp only[Y1,b?,Lib.indexByte];cases C:Nat.beq b c with
  |true =>rw[pX.1 C];simp
  |false=>
   have j:(UInt8.ofNat b == UInt8.ofNat c)=false:=by have:=B_ C;rw[n?];exact λe=>this (zY P r e)
   rw[j,E_,H8 c r l (i+1) J];have p:=Lib.indexByte_ge (l.map UInt8.ofNat) (UInt8.ofNat c);generalize Lib.indexByte (l.map UInt8.ofNat) (UInt8.ofNat c)=x at p⊢;by_cases g:x = -1
   ·subst g;rfl
   ·have f:(x == -1)=false:=by rw[n?];exact g
    simp[g,f];rw[B' Ω];omega
def ae5 (hI:Inv B T φ h w)(ho:o.op = .call cl)(hcl:cl.callee = .value (.func f))(hf:P.funcs[f]? = some fn)(hb:fn.body=none)(hn:Extern.findNext fn=none)(he:fn.name = "internal/bytealg.IndexByteString")(hv:RTs φ J (cl.args.toList.map a.eval))(hq:(ZK J fr).run h=some (out,wr)):OkX P B T φ h w o a out wr:=by
 unfold ZK at hq;split at hq
 ·obtain⟨v1,ws,e1,hr1,hr2⟩:=hv.cons;obtain⟨v2,e2,hr3⟩:=hr2.one;subst e2;split at hq
  next b c=>
   cases hc:Nat.blt c 256 with
   |false=>rw[hc]at hq;cases hq
   |true=>
    rw[hc,G',bT]at hq;have hc:=bM.1 hc;cases hq;obtain⟨h1,h2⟩:=lN hr1;have h3:v2 = .int .u8 (c:Int):=cR hr3;have e2:cl.args.map a.eval = #[v1,v2]:=by apply m_;rw[aiQ,e1]
    refine aq hI (v :=.int .i64 (Y1 c b 0)) (EZ ho hcl hf hb (by rw[he];decide) hn (EQ he) ?_) (cm _ _);rw[e2,h2,h3];unfold og;rw[Lib.run_indexByteString];have hs:=H8 c hc b 0 h1;have hcc:((c:Int).toNat).toUInt8=UInt8.ofNat c:=rfl;rw[hs,hcc];by_cases hx:Lib.indexByte (b.map UInt8.ofNat) (UInt8.ofNat c) = -1
    ·rw[β hx,hx]
    ·rw[B' hx];simp
  ·cases hq
 ·cases hq
def ab0 (hI:Inv B T φ h w)(ho:o.op = .call cl)(hcl:cl.callee = .value (.func f))(hf:P.funcs[f]? = some fn)(hb:fn.body=none)(hn:Extern.findNext fn=none)(he:fn.name = "internal/bytealg.MakeNoZero")(ht:fn.resultTypes.toList=[t])(hu:P.underlying t=some (.slice e))(_hs:ah P e=1)(hv:RTs φ J (cl.args.toList.map a.eval))(hfr:h fr = .none)(hq:(Tv e J fr).run h=some (out,wr)):OkX P B T φ h w o a out wr:=by
 unfold Tv at hq;split at hq
 ·obtain⟨v1,e1,hr1⟩:=hv.one;split at hq
  next n=>
   cases hc:Nat.ble n 16777216 with
   |false=>rw[hc]at hq;cases hq
   |true=>
    rw[hc,G']at hq;have hc:=bf.1 hc;cases hq;have h1:v1 = .int .i64 (n:Int):=cR hr1;have e2:cl.args.map a.eval = #[v1]:=by apply m_;rw[aiQ,e1]
    have e3:fn.resultTypes = #[t]:=m_ ht;obtain⟨cs,q1,q2,_⟩:=Lib.run_makeNoZero (P:=P) w fn.params t e hu n Ω;obtain⟨p1,p2⟩:=hI.drew.drew.newR hfr (e:=e) (s:=1) (N:=cs.size) (l:=[]) (vs:=[]) (arr:=cs) (fr:=(0,0)) (fz :=.no) Ω (λa ha=>by cases ha) rfl (λj u hu=>by simp at hu) Ψ Ψ Ψ rfl;refine fD (v :=.slice (some ⟨w.heap.size,0,none⟩) n cs.size) (EZ ho hcl hf hb (by rw[he];decide) hn (BT he) (by rw[e2,e3,h1];exact q1)) p1 p2 ?_;have:=PC (φ:=φ) (f:=fr) (b:=w.heap.size) (N:=cs.size) (s:=1) (n:=n) (cap:=none) (by simp only[xb,Z'];exact bf.2 q2);exact this
  ·cases hq
 ·cases hq
def aeS (hI:Inv B T φ h w)(ho:o.op = .call cl)(C:cl.callee = .builtin .unsafeSliceData)(l:cl.args = #[x])(hv:RTs φ J [a.eval x])(f:(ZF J fr).run h=some (out,wr)):OkX P B T φ h w o a out wr:=by
 have hex:∀{v w'},(Builtin.unsafeSliceData_ cl.argTypes o.type #[a.eval x]).run P w = .ok v w'→(execOp a.eval o).run P w = .ok (.value v) w':=λp=>by unfold execOp;simp[ho,resolve,C,l,invoke,builtin,p]
 unfold ZF at f;split at f
 ·obtain⟨v,e,p⟩:=hv.one;cases e;split at f
  ·cases f;exact aq hI (v :=.pointer none) (hex (by rw[dP p];rfl)) rfl
  next k g j n cap=>
   obtain⟨r,hl,ev,R⟩:=Ji p;have hc:gk cap r.n (j/r.s)≠0∧out = .pv (.one (.ptr k g j))∧wr=none:=by
    cases cap with
    |some c=>
     simp only at f;cases U:Nat.blt 0 c with
     |false=>rw[U]at f;cases f
     |true =>rw[U]at f;simp[pa,Q.run]at f;have:=bM.1 U;exact⟨by simp[gk];omega,f.1.symm,f.2.symm⟩
    |none =>simp[pa,Q.run]at f;have:=bf.1 R;exact⟨by simp[gk];omega,f.1.symm,f.2.symm⟩
   obtain⟨h1,rfl,rfl⟩:=hc;refine aq hI (v :=.pointer (some ⟨r.b,j,none⟩)) (hex ?_) ?_
   ·rw[ev];exact Lib.run_unsafeSliceData_row w _ _ _ _ _ h1
   ·show den φ (.ptr k g j)=_;simp[den,hl]
  ·cases f
 ·cases f
def PW {fits:TypeId→Bool}:∀(d:Nat) (e:TypeId) {c g:Nat} (f n:Nat),c≤g→rowAt P fits d e c f n=true→rowAt P fits d e g f n=true
 |0,_,_,_,_,_,_,h=>by simp[rowAt]at h
 |d+1,e,c,g,f,n,hc,h=>by
  unfold rowAt at h⊢;by_cases p:P.cellsOf e=0
  ·simp[p]at h
  ·simp only[p,ajp]at h⊢;simp at h⊢;rcases h with⟨⟨l,j⟩,h3⟩|⟨l,j⟩
   ·exact .inl ⟨⟨l,Ω⟩,h3⟩
   ·exact .inr ⟨Ω,j⟩
def Bj:∀(d:Nat) (e:TypeId) {c g:Nat} (f:Nat) (u:TypeId) (n:Nat),c≤g→liesAt P d e c f u n=true→liesAt P d e g f u n=true
 |0,_,_,_,_,_,_,_,h=>by simp[liesAt]at h
 |d+1,e,c,g,f,u,n,hc,h=>by
  unfold liesAt at h⊢;simp at h⊢;obtain h|h:=h
  ·exact .inl (PW _ e f n hc h)
  ·right;cases j:P.underlying u with
   |none=>rw[j]at h;exact h
   |some l=>
    rw[j]at h;cases l <;> first|exact h|exact Bj d e f _ _ hc h
def UJ {b:Nat}{fr:Nat×Nat}(f:w.heap[b]? = some (.cells arr e fr)):(shape b).run P w = .ok (some (e,arr.size)) w:=by simp[shape,Sem.run,World.shape?,f]
def C9 {a:Addr}{fr:Nat×Nat}(f:w.heap[a.block]? = some (.cells arr e fr)):(Conv.seenAt a).run P w = .ok a w:=by simp[Conv.seenAt,viewAt,UJ f]
def B3 (U:Inv B T φ h w){len f:Nat}(R:h k = .row e s el len f fz)(j:φ.loc k g=some l):∃arr fr,w.heap[l.b]? = some (.cells arr e fr)∧arr.size=l.n*s∧(g=f→len≤l.n)∧l.s=s∧0<s:=by
 have p:=U.obj k;rw[R]at p;obtain⟨h0,_,_,h2,h3⟩:=p;obtain hg|hg:=d_ f g
 ·rw[h2 g hg]at j;cases j
 ·obtain⟨l',q1,⟨q2,P,arr,fr,J,C,q6,q7⟩,r⟩:=h3 g hg;rw[q1]at j;cases j;exact⟨arr,fr,J,C,r,P,h0⟩
def ST:RT φ (.pv (.one .nilp)) (.pointer none):=rfl
def aeV (C:Inv B T φ h w){s:TypeId}(ho:o.op = .convert s t x)(hs:P.underlying s=some (.pointer e))(ht:P.underlying t=some .unsafePointer)(hz:ah P e≠0)(hv:RTs φ J [a.eval x])(f:(acY J fr).run h=some (out,wr)):OkX P B T φ h w o a out wr:=by
 have hex:∀{v w'},(Conv.unsafePointer s t (a.eval x)).run P w = .ok v w'→(execOp a.eval o).run P w = .ok (.value v) w':=λr=>by unfold execOp;simp[ho,convert,ε hs,ε ht,r]
 unfold acY at f;split at f
 ·obtain⟨v,e1,r⟩:=hv.one;cases e1;split at f
  next k g j=>
   simp[Q.run]at f;split at f
   ·rename_i cs hcs;cases f;obtain⟨l,hl,ev⟩:=ga r;refine aq C (v :=.pointer (some ⟨l.b,j,none⟩)) (hex ?_) (by rw[←ev];exact r);obtain⟨U,q1,q2,q3,e',len,gen,fz,s',el,hk,_,_⟩:=C.rd hcs hl;have hvl:U.length=1:=by rw[aY q1,q2]
    obtain⟨u,rfl⟩:∃u,U=[u]:=by
     match U,hvl with
     |[u],_=>exact⟨u,rfl⟩
    have hc:=q3 0 u rfl;rw[oJ,F?]at hc;obtain⟨arr,fr',R,z2,_⟩:=B3 C hk hl;rw[ajq w l.b j arr e' fr' R]at hc;have hlt:=(η.1 hc).1;have hno:¬arr.size≤j:=Ω
    have p:=C9 (P:=P) (a:=⟨l.b,j,none⟩) R;have hsh:w.shape? l.b=some (e',arr.size):=by simp[World.shape?,R]
    rw[ev];simp[Conv.unsafePointer,ε hs,ε ht,p,cellsIn,hsh,az hz,hz,hno]
   ·cases f
  ·cases f;have ev:=kn r;refine aq C (v :=.pointer none) (hex ?_) ST;rw[ev];simp[Conv.unsafePointer,ε hs,ε ht]
  ·cases f
 ·cases f
def aeT (hI:Inv B T φ h w){s u:TypeId}(U:o.op = .convert s t x)(hs:P.underlying s=some .unsafePointer)(ht:P.underlying t=some (.pointer u))(p:ah P u≠0)(hv:RTs φ J [a.eval x])(f:(acW (W4 P u) J fr).run h=some (out,wr)):OkX P B T φ h w o a out wr:=by
 have hex:∀{v w'},(Conv.unsafePointer s t (a.eval x)).run P w = .ok v w'→(execOp a.eval o).run P w = .ok (.value v) w':=λC=>by unfold execOp;simp[U,convert,ε hs,ε ht,C]
 unfold acW at f;split at f
 ·obtain⟨v,e1,C⟩:=hv.one;cases e1;split at f
  next k g j=>
   simp[Q.run]at f;split at f
   ·rename_i e s' el hk;cases hc:W4 P u e s' j with
    |false=>rw[hc]at f;cases f
    |true=>
     rw[hc,G']at f;cases f;obtain⟨l,hl,ev⟩:=ga C;refine aq hI (v :=.pointer (some ⟨l.b,j,none⟩)) (hex ?_) (by rw[←ev];exact C);obtain⟨arr,fr',z1,z2,z3,_,z5⟩:=B3 hI hk hl;have hg0:g=0:=by
      have U:=hI.obj k;rw[hk]at U;obtain⟨_,_,_,h2,_⟩:=U;cases g with
      |zero=>rfl
      |succ g=>rw[h2 _ Ω]at hl;cases hl
     have hn:=z3 hg0;have hle:s'≤arr.size:=by rw[z2];exact Nat.le_mul_of_pos_left _ hn
     have R:liesAt P P.depth e (arr.size/P.cellsOf e) j u 1=true:=Bj _ _ _ _ _ (Nat.div_le_div_right hle) hc;have r:=C9 (P:=P) (a:=⟨l.b,j,none⟩) z1;have hsh:w.shape? l.b=some (e,arr.size):=by simp[World.shape?,z1]
     rw[ev];simp[Conv.unsafePointer,ε hs,ε ht,r,variablesAt,hsh,R,az p,p]
   ·cases f
  ·cases f;have ev:=kn C;refine aq hI (v :=.pointer none) (hex ?_) ST;rw[ev];simp[Conv.unsafePointer,ε hs,ε ht]
  ·cases f
 ·cases f
def Inv.frz (hI:Inv B T φ h w){len R:Nat}(hk:h k = .row e s el len R fz)(hl:φ.loc k g=some l)(p:Addr)(P:p.block=l.b)(n:Nat):Inv B T φ (upd h k (.row e s el len R .yes)) (w.freeze p n):=by
 have ho:=hI.obj k;rw[hk]at ho;obtain⟨h0,h1,hm,h2,h3⟩:=ho;obtain⟨arr0,fr0,y1,_⟩:=B3 hI hk hl;have f:∀b,b≠l.b→(w.freeze p n).heap[b]? = w.heap[b]?:=λb j=>by
  unfold World.freeze;split
  ·rfl
  ·simp only[z?];rw[B' (by rw[P];exact λe=>j e.symm)]
 have r:∀arr e fr,w.heap[l.b]? = some (.cells arr e fr)→∃C,(w.freeze p n).heap[l.b]? = some (.cells arr e C):=λarr e fr j=>by
  unfold World.freeze;split
  ·exact⟨fr,j⟩
  ·simp only[z?];rw[β P,j];exact⟨_,rfl⟩
 have hfs:(w.freeze p n).os=w.os∧(w.freeze p n).tape=w.tape∧(w.freeze p n).output=w.output∧w.heap.size≤(w.freeze p n).heap.size∧dz w≤dz (w.freeze p n):=by
  unfold World.freeze;split
  ·exact⟨rfl,rfl,rfl,ζ _,ζ _⟩
  ·exact⟨rfl,rfl,rfl,Ψ,ζ _⟩
 obtain⟨f1,f2,f3,f4,f5⟩:=hfs;refine hI.turn (ψ:=φ) (Gx.le.refl φ) (λ_ _=>⟨λ_=>rfl,rfl,rfl⟩) (λU J x=>.inl ⟨U,J,x,rfl⟩) (λb j hne=>f b λe=>hne g l hl e.symm) (λU J x ob z1 z2=>?_) f1 f2 f3 f4 f5 ⟨h0,h1,hm,h2,λU hg1=>?_⟩
 ·by_cases j:J.b=l.b
  ·rw[j,y1]at z1;cases z1;cases z2
  ·rw[f _ j];exact z1
 ·obtain⟨J,q1,⟨q2,q3,arr,fr,q4,q5,q6,q7⟩,q8⟩:=h3 U hg1;refine⟨J,q1, ?_,q8⟩;by_cases j:J.b=l.b
  ·obtain⟨C,z⟩:=r arr e fr (by rw[←j];exact q4);exact⟨q2,q3,arr,C,by rw[j];exact z,q5,ans,q7⟩
  ·exact⟨q2,q3,arr,fr,by rw[f _ j];exact q4,q5,ans,q7⟩
def aeR (hI:Inv B T φ h w){y:Operand}{t2:TypeId}(ho:o.op = .call cl)(hcl:cl.callee = .builtin .unsafeString)(hargs:cl.args = #[x,y])(hty:cl.argTypes = #[t,t2])(hu:P.underlying t=some (.pointer e))(hv:RTs φ J [a.eval x,a.eval y])(f:(acV e (R7 P) J fr).run h=some (out,wr)):OkX P B T φ h w o a out wr:=by
 have hex:∀{v w'},(Builtin.unsafeString_ #[t,t2] o.type #[a.eval x,a.eval y]).run P w = .ok v w'→(execOp a.eval o).run P w = .ok (.value v) w':=λhr=>by unfold execOp;simp[ho,resolve,hcl,hargs,hty,invoke,builtin,hr]
 unfold acV at f;split at f
 ·obtain⟨v1,ws,e1,hr1,hr2⟩:=hv.cons;obtain⟨v2,e2,R⟩:=hr2.one;subst e2;simp at e1;obtain⟨e1,e2⟩:=e1;subst e1;subst e2;split at f
  ·cases f;refine aq hI (v :=.string .empty) (hex ?_) (sL rfl);rw[kn hr1,show a.eval y = .int .i64 0 from cR R];exact Lib.run_unsafeString_none w t t2 o.type none
  next k g off n=>
   obtain⟨l,hl,ev⟩:=ga hr1;split at f
   ·cases f;refine aq hI (v :=.string .empty) (hex ?_) (sL rfl);rw[ev,show a.eval y = .int .i64 0 from cR R];exact Lib.run_unsafeString_none w t t2 o.type _
   ·rename_i n;simp[Q.run]at f;split at f
    ·rename_i ls hls;split at f
     ·rename_i b hb;split at f
      ·rename_i e' el len gen fz hk;cases hc:(Nat.beq e e'&&Nat.beq off 0&&R7 P e' len off (n+1))with
       |false=>rw[hc]at f;cases f
       |true=>
        rw[hc,G']at f;simp at hc;obtain⟨⟨rfl,rfl⟩,c3⟩:=hc;cases f;simp[R7,bf]at c3;obtain⟨c3,c4⟩:=c3;obtain⟨q1,q2,vs,q3,q4⟩:=hI.rds hl hls;obtain⟨p1,p2⟩:=tJ hb q3;obtain⟨arr,fr',z1,z2,z3,_,_⟩:=B3 hI hk hl;have hsh:w.shape? l.b=some (e,arr.size):=by simp[World.shape?,z1]
        have p:b.length=n+1:=by
         have:vs.length=(n+1)*1:=by rw[aY q3,fS q2,q1]
         rw[p2]at this;simpa using this
        have r:∀(j:Nat) (x:UInt8),(b.map UInt8.ofNat)[j]? = some x→w.cell? ((⟨l.b,0,none⟩:Addr).add j)=some (.int .u8 x.toNat):=λj x hj=>by
         rw[A_]at hj;simp at hj;obtain⟨c,hc,rfl⟩:=hj;have:=q4 j (.int .u8 (Int.ofNat c)) (by rw[p2,A_,hc];rfl);rw[this];have hcm:c<256:=by have:=T'.1 p1 c (Y_ hc);exact bM.1 this
         have:(UInt8.ofNat c).toNat=c:=by simp;omega
         rw[this];rfl
        have hfit:n+1≤arr.size:=by
         have U:∃x,(b.map UInt8.ofNat)[n]? = some x:=by rw[A_];exact⟨UInt8.ofNat b[n],by rw[δ Ω];rfl⟩
         obtain⟨x,hx⟩:=U;have:=r n x hx;rw[oJ,Z',ajq w l.b n arr e fr' z1]at this;have:=(η.1 this).1;omega
        have hl32:len+2≤2^32:=by have ho:=hI.obj k;rw[hk]at ho;exact ho.2.1
        have C:=Lib.run_unsafeString_row (P:=P) w t t2 o.type e hu c3 l.b arr.size hsh (b.map UInt8.ofNat) (by intro e0;rw[List.map_eq_nil_iff]at e0;rw[e0]at p;simp at p) (by simpa[p]using hfit) (by simp[p];omega) r;refine fD (v:=og b) (hex ?_) (Gx.le.refl φ) (hI.frz hk hl ⟨l.b,0,none⟩ rfl (b.map UInt8.ofNat).length) (sL p1);rw[ev,show a.eval y = .int .i64 ((n+1:Nat):Int) from cR R];rw[o_,p]at C;rw[o_,p];exact C
      ·cases f
     ·cases f
    ·cases f
  ·cases f
 ·cases f
end
variable [SymVal]
section
variable {P:Program}{B:Nat}{T:W0}{φ:Gx}{h:Pos→EO}{w:World}{o:Oper}{a:Act}
variable{J:List TV}{f:Pos}{out:TV}{wr:Option (Pos×EO)}{α:Type}{cl:Call}{k:K}{xs:List Operand}
def DU (r:Inv B T φ h w){op:BinOp}{t ty:TypeId}{x y:Operand}(p:o.op = .binOp op t x y ty)(hv:RTs φ J [a.eval x,a.eval y])(g:(rJ op J f).run h=some (out,wr)):OkX P B T φ h w o a out wr:=by
 unfold rJ at g;split at g
 ·obtain⟨v1,ws,C,l,R⟩:=hv.cons;obtain⟨v2,e2,j⟩:=R.one;subst e2;simp at C;obtain⟨C,e2⟩:=C;subst C;subst e2;split at g
  ·split at g
   ·rename_i k m k' n;have h1:=cR l;have h2:=cR j;split at g
    ·exact Yn r p h1 h2 g
    ·exact Yn r p h1 h2 g
    ·cases U:kq k k' with
     |false=>rw[U]at g;cases g
     |true =>rw[U,G']at g;have:=HW U;subst this;exact acj r p h1 h2 g
   ·obtain⟨q1,q2⟩:=lN l;obtain⟨q3,q4⟩:=lN j;exact aci r p q1 q3 q2 q4 g
   ·cases g
  ·cases g
 ·cases g
def JW (p:Inv B T φ h w){v:Value}(l:(execOp a.eval o).run P w = .ok (.value v) w)(j:RTs φ J [v])(g:(Rx J f).run h=some (out,wr)):OkX P B T φ h w o a out wr:=by
 unfold Rx at g;split at g
 ·cases g;obtain⟨u,e,r⟩:=j.one;cases e;exact aq p l r
 ·cases g
def jc {l:Array α}{x y:α}(h:l.toList=[x,y]):l = #[x,y]:=m_ h
def ru {l:Array α}{x:α}(h:l.toList=[x]):l = #[x]:=m_ h
def Qu (R:Inv B T φ h w){b:Builtin}(C:o.op = .call cl)(p:cl.callee = .builtin b)(g:Fx P cl b=some (k,xs))(hf:kAl k=true→h f = .none)(U:RTs φ J (xs.map a.eval))(r:(dY k J f).run h=some (out,wr)):OkX P B T φ h w o a out wr:=by
 unfold Fx at g;split at g
 next x t j l=>
  have j:=ru j;have l:=ru l;split at g
  next hu=>cases g;exact ab6 (f:=f) R C p j l hu U r
  next hu=>cases g;exact ab8 (f:=f) R C p j l hu U r
  next hu=>cases g;exact ab7 (f:=f) R C p j l hu U r
  next hu=>cases g;exact ab9 (f:=f) R C p j l hu r
  ·cases g
 next x t j l=>
  have j:=ru j;have l:=ru l;split at g
  next hu=>cases g;exact ach (f:=f) R C p j l hu U r
  ·cases g
 next s x t u j l=>
  have j:=jc j;have l:=jc l;split at g
  next e hu=>
   split at g
   ·rename_i z hz;split at g
    ·cases g
    ·rename_i hn;simp[ajR]at hn;split at g
     next e2 hu2=>cases g;exact Ys (f:=f) R C p j l hu hz hn.2 hn.1 (.inl ⟨rfl,e2,hu2⟩) (hf rfl) U r
     ·rename_i hu2;split at g
      next hs=>cases g;exact Ys (f:=f) R C p j l hu hz hn.2 hn.1 (.inr ⟨rfl,hu2,hs⟩) (hf rfl) U r
      ·cases g
     ·cases g
   ·cases g
  ·cases g
 next s x t u j l=>
  have j:=jc j;have l:=jc l;split at g
  next e hu=>
   split at g
   ·cases g
   ·rename_i hn;split at g
    next e2 hu2=>cases g;exact afc (f:=f) R C p j l hu hn hu2 U r
    ·cases g
  ·cases g
 next x j=>have j:=ru j;cases g;exact aeS (fr:=f) R C p j U r
 next x y t t2 j l=>
  have j:=jc j;have l:=jc l;split at g
  next e hu=>
   split at g
   ·cases g;exact aeR (fr:=f) R C p j l hu U r
   ·cases g
  ·cases g
 next x y t t2 j l=>
  have j:=jc j;have l:=jc l;split at g
  next kt e hu=>
   split at g
   next q hkey=>cases g;exact afb (f:=f) R C p j l hu hkey U r
   ·cases g
  ·cases g
 next x t j l=>
  have j:=ru j;have l:=ru l;split at g
  next e hu=>
   split at g
   next z hz=>cases g;exact afd (f:=f) R C p j l hu hz U r
   ·cases g
  ·cases g
 next x y j=>have j:=jc j;cases g;exact ad4 (big:=true) (f:=f) R C p j U r
 next x y j=>have j:=jc j;cases g;exact ad4 (big:=false) (f:=f) R C p j U r
 ·cases g
def M8 (hI:Inv B T φ h w){fi:FuncId}{fn:Func}(U:o.op = .call cl)(l:cl.callee = .value (.func fi))(j:P.funcs[fi]? = some fn)(hb:fn.body=none)(g:agc fn P=some k)(hf:kAl k=true→h f = .none)(C:RTs φ J (cl.args.toList.map a.eval))(R:(dY k J f).run h=some (out,wr)):OkX P B T φ h w o a out wr:=by
 unfold agc at g;split at g
 ·cases g
 next p=>
  have p:Extern.findNext fn=none:=by simpa using p
  split at g
  next r=>cases g;exact M3 (fr:=f) hI U l j hb p r C R
  ·split at g
   next r=>cases g;exact ae5 (fr:=f) hI U l j hb p r C R
   ·split at g
    ·rename_i r;split at g
     ·rename_i t ht;split at g
      ·rename_i e hu;split at g
       next hs=>cases g;exact ab0 (fr:=f) hI U l j hb p r ht hu hs C (hf rfl) R
       ·cases g
      ·cases g
     ·cases g
    ·cases g
def NH {o:Option α}(h:¬o.isSome=true):o=none:=by cases o <;> simp_all
def aax {Gl:Glt}(hG:mJ Gl P B T)(U:Inv B T φ h w)(j:cK P Gl o.op=some (k,xs))(hf:kAl k=true→h f = .none)(hv:RTs φ J (xs.map a.eval))(R:(dY k J f).run h=some (out,wr)):OkX P B T φ h w o a out wr:=by
 have C:∀{k':K} {xs':List Operand},some (k',xs')=some (k,xs)→k'=k∧xs'=xs:=λh=>by simp at h;exact h
 cases p:o.op <;> rw[p]at j <;> simp only[cK]at j <;> first|(cases j;done)|skip
 case move x=>obtain⟨rfl,rfl⟩:=C j;exact JW (f:=f) U (by unfold execOp;simp[p]) hv R
 case assign x=>obtain⟨rfl,rfl⟩:=C j;exact JW (f:=f) U (by unfold execOp;simp[p]) hv R
 case pick c x y=>
  obtain⟨rfl,rfl⟩:=C j;simp[dY,Tu]at R;split at R
  ·obtain⟨v1,ws,e1,hr1,hr2⟩:=hv.cons;obtain⟨v2,ws2,e2,hr3,hr4⟩:=hr2.cons;obtain⟨v3,e3,hr5⟩:=hr4.one;subst e3;subst e2;simp at e1;obtain⟨e1,e2,e3⟩:=e1;subst e1;subst e2;subst e3;split at R
   next b=>cases R;cases b <;> exact JV (P:=P) U p hr1 hr3 hr5
   ·cases R
  ·cases R
 case alloc e=>
  split at j
  next z hz=>
   split at j
   ·cases j
   next hs=>obtain⟨rfl,rfl⟩:=C j;exact DW (f:=f) U p hz hs (hf rfl) R
  ·cases j
 case box e x=>
  split at j
  ·cases j
  next hs=>obtain⟨rfl,rfl⟩:=C j;exact Qv (f:=f) U p hs (hf rfl) hv R
 case build t parts=>
  split at j
  next z fs hz hu=>
   split at j
   ·rename_i ha;split at j
    next ps hp=>obtain⟨rfl,rfl⟩:=C j;exact yh (f:=f) U p hz (.inl ⟨fs,hu,ha,hp⟩) hv R
    ·cases j
   ·cases j
  next z n e hz hu=>
   split at j
   ·cases j
   next hs=>obtain⟨rfl,rfl⟩:=C j;exact yh (f:=f) U p hz (.inr ⟨n,e,hu,hs,rfl⟩) hv R
  ·cases j
 case buildSlice t len parts=>
  split at j
  next e hu=>
   split at j
   ·rename_i z hz;split at j
    ·cases j
    next hn=>simp[ajR]at hn;obtain⟨rfl,rfl⟩:=C j;exact ae3 (f:=f) U p hu hz hn.2 hn.1 (hf rfl) hv R
   ·cases j
  ·cases j
 case insert t m kk x=>
  split at j
  next kt e hu=>
   split at j
   next q hk=>obtain⟨rfl,rfl⟩:=C j;exact Yo (f:=f) U (.inr p) hu hk hv R
   ·cases j
  ·cases j
 case load t ad=>
  split at j
  next g=>
   split at j
   next v hg=>obtain⟨rfl,rfl⟩:=C j;refine JW (f:=f) U (v:=v) ?_ hv R;have:=hG.1 g t _ hg w U.below;unfold execOp;simp[p,Act.eval,ξ,this,a_,gv]
   ·rename_i n hg;obtain⟨rfl,rfl⟩:=C j;cases J with
    |cons t l=>cases hv
    |nil =>cases R;refine aq U (v:=SymVal.v n) ?_ rfl;have:=hG.1 g t _ hg w U.below;unfold execOp;simp[p,Act.eval,ξ,this,a_,gv]
   ·cases j
  ·split at j
   ·cases j
   ·rename_i hs;split at j
    next b hb=>obtain⟨rfl,rfl⟩:=C j;exact ab5 (f:=f) U p hs hb hv R
    ·cases j
 case store t ad x=>
  split at j
  ·cases j
  next hs=>obtain⟨rfl,rfl⟩:=C j;exact DS (f:=f) U p hs hv R
 case nilCheck x=>obtain⟨rfl,rfl⟩:=C j;exact U9 (f:=f) U p hv R
 case binOp op t x y ty=>
  have eq:∀{neg:Bool},o.op = .binOp (oA neg) t x y ty→(∀k,P.underlying t≠some (.int k))→P.underlying t≠some .string→(match E0 P t (isC x||isC y)with|some q=>some (K.eql neg q,[x,y])|none=>none)=some (k,xs)→OkX P B T φ h w o a out wr:=λ{neg} ho h1 h2 j=>by
   split at j
   next q hq0=>obtain⟨rfl,rfl⟩:=C j;exact ae9 (f:=f) U ho h1 h2 hq0 hv R
   ·cases j
  split at j
  ·split at j
   ·obtain⟨rfl,rfl⟩:=C j;exact DU (f:=f) U p hv R
   ·obtain⟨rfl,rfl⟩:=C j;exact DU (f:=f) U p hv R
   next h1 h2=>exact eq (neg:=false) p (λk e=>h1 k e) h2 j
  ·split at j
   ·obtain⟨rfl,rfl⟩:=C j;exact DU (f:=f) U p hv R
   ·obtain⟨rfl,rfl⟩:=C j;exact DU (f:=f) U p hv R
   next h1 h2=>exact eq (neg:=true) p (λk e=>h1 k e) h2 j
  ·obtain⟨rfl,rfl⟩:=C j;exact DU (f:=f) U p hv R
 case unOp op t x=>obtain⟨rfl,rfl⟩:=C j;exact ag0 (f:=f) U p hv R
 case convert s t x=>
  split at j
  next hs ht=>obtain⟨rfl,rfl⟩:=C j;exact acg (f:=f) U p hs ht hv R
  next hs ht=>obtain⟨rfl,rfl⟩:=C j;exact ae6 (f:=f) U p hs ht hv R
  next hs ht=>obtain⟨rfl,rfl⟩:=C j;exact abW (f:=f) U p hs ht hv R
  next e hs ht=>
   split at j
   ·cases j
   next hz=>obtain⟨rfl,rfl⟩:=C j;exact aeV (fr:=f) U p hs ht hz hv R
  next u hs ht=>
   split at j
   ·cases j
   next hz=>obtain⟨rfl,rfl⟩:=C j;exact aeT (fr:=f) U p hs ht hz hv R
  next e hs ht=>
   split at j
   next he=>rw[β rfl]at j;obtain⟨rfl,rfl⟩:=C j;exact afe (f:=f) U p hs ht he hv R
   ·rw[B' Ϛ]at j;cases j
  ·cases j
 case makeInterface t x=>
  split at j
  ·cases j
  next d hn hd=>obtain⟨rfl,rfl⟩:=C j;exact ae1 (f:=f) U p hd (λm e=>hn m e) (hf rfl) hv R
  ·cases j
 case makeFunc fn first caps=>obtain⟨rfl,rfl⟩:=C j;exact ae2 (f:=f) U p (hf rfl) hv R
 case makeMap t r=>
  split at j
  next k e hu=>obtain⟨rfl,rfl⟩:=C j;exact ae0 (f:=f) U p hu (hf rfl) hv R
  ·cases j
 case makeSlice t l c=>
  split at j
  next e hu=>
   split at j
   ·rename_i z hz;split at j
    ·cases j
    next hn=>simp[ajR]at hn;obtain⟨rfl,rfl⟩:=C j;exact aeZ (f:=f) U p hu hz hn.2 hn.1 (hf rfl) hv R
   ·cases j
  ·cases j
 case slice t x lo hi mx=>
  split at j
  next hu=>
   split at j
   ·cases j
   next hm=>have:=NH hm;subst this;obtain⟨rfl,rfl⟩:=C j;exact abT (f:=f) U p hu hv R
  next e hu=>
   split at j
   ·cases j
   next hz=>obtain⟨rfl,rfl⟩:=C j;exact abU (f:=f) U p hu hz (hf rfl) hv R
  next n e hu=>
   split at j
   ·cases j
   next hz=>obtain⟨rfl,rfl⟩:=C j;exact abV (f:=f) U p hu hz hv R
  ·cases j
 case fieldAddr s x n=>
  split at j
  next fs hu=>
   split at j
   ·rename_i fd hn;split at j
    ·cases j
    next hz=>obtain⟨rfl,rfl⟩:=C j;exact acf (f:=f) U p hu hn hz hv R
   ·cases j
  ·cases j
 case field s x n=>
  split at j
  next fs hu=>
   split at j
   ·rename_i fd hn;split at j
    ·cases j
    ·rename_i hz;split at j
     next b hb=>obtain⟨rfl,rfl⟩:=C j;exact ae7 (f:=f) U p hu hn hz hb hv R
     ·cases j
   ·cases j
  ·cases j
 case indexAddr t x i=>
  split at j
  next e hu=>
   split at j
   ·cases j
   next hz=>obtain⟨rfl,rfl⟩:=C j;exact acb (f:=f) U p hu hz hv R
  next n e hu=>
   split at j
   ·cases j
   next hz=>obtain⟨rfl,rfl⟩:=C j;exact ace (f:=f) U p hu hz hv R
  ·cases j
 case index t x i=>
  split at j
  next hu=>obtain⟨rfl,rfl⟩:=C j;exact aca (f:=f) U p hu hv R
  next n e hu=>
   split at j
   ·cases j
   ·rename_i hz;split at j
    next b hb=>obtain⟨rfl,rfl⟩:=C j;exact acd (f:=f) U p hu hz hb hv R
    ·cases j
  ·cases j
 case lookup t x i ok=>
  split at j
  next kt e hu=>
   split at j
   next q z hk hz=>obtain⟨rfl,rfl⟩:=C j;exact ab4 (f:=f) U p hu hk hz hv R
   ·cases j
  ·cases j
 case mapUpdate t m kk x=>
  split at j
  next kt e hu=>
   split at j
   next q hk=>obtain⟨rfl,rfl⟩:=C j;exact Yo (f:=f) U (.inl p) hu hk hv R
   ·cases j
  ·cases j
 case mapEntry t m kk=>
  split at j
  next kt e hu=>
   split at j
   next q z hk hz=>obtain⟨rfl,rfl⟩:=C j;exact ab2 (f:=f) U p hu hk hz hv R
   ·cases j
  ·cases j
 case entryStore t m s x=>obtain⟨rfl,rfl⟩:=C j;exact ab1 (f:=f) U p hv R
 case range t x=>
  split at j
  next k e hu=>obtain⟨rfl,rfl⟩:=C j;exact abX (f:=f) U p hu (hf rfl) hv R
  ·cases j
 case entry it=>obtain⟨rfl,rfl⟩:=C j;exact afa (f:=f) U p hv R
 case extract x i=>obtain⟨rfl,rfl⟩:=C j;exact ae8 (f:=f) U p hv R
 case call c=>
  split at j
  next b hcl=>exact Qu (f:=f) U p hcl j hf hv R
  next fi hcl=>
   split at j
   ·rename_i fn hfn;split at j
    ·cases j
    ·rename_i hb;split at j
     next k' hk=>obtain⟨rfl,rfl⟩:=C j;exact M8 (f:=f) U p hcl hfn hb hk hf hv R
     ·cases j
   ·cases j
  ·cases j
end
variable [SymVal]
def RF (f:Option Nat):Fence:={ Fence.wide with round:=f }
variable{P:Program}{ro:Option Nat}{n B:Nat}{w:World}{o:Oper}{a:Act}{h:Pos→EO}{W:W0}{φ ψ:Gx}{e:Env}
def Cr {f:FuncId}{args:Array Value}{R:Ending→World→Prop}(h:Calls P f args w R):CallsIn (RF ro) n P f args w R:=by have g:CallsIn Fence.wide n P f args w R:=callsIn_wide.2 h;exact g
def ff (ro:Option Nat)(o:Oper):Prop:=ro=none∨∀c,o.op ≠ .defer c
def sE {K:Act→World→Prop}{Q:Exit→Act→World→Prop}(g:ff ro o)(h:o.wp P a w K Q):o.wpIn (RF ro) n P a w K Q:=by
 refine⟨λ_ _=>trivial, ?_⟩;have e:o.semAt (RF ro).round a.eval=execOp a.eval o:=by
  obtain rfl|g:=g
  ·rfl
  ·exact Oper.semAt_eq _ _ _ g
 rw[e];unfold Oper.wp at h;generalize (execOp a.eval o).run P w=r at h⊢;cases r with
 |ok x j=>
  cases x <;> simp[Oper.upon,Oper.uponIn]at h⊢;case value=>exact h
  case skip=>exact h
  case defer=>exact h
  case enter=>exact⟨(λq=>by cases q),Cr h⟩
  case row =>refine⟨(λq=>by cases q),λc l _=>?_⟩;obtain⟨v,f,r1,r2⟩:=h c l;exact⟨v,f,r1,stepsIn_wide.2 r2⟩
 |halt x j=>cases x <;> simp[Oper.upon,Oper.uponIn]at h⊢ <;> exact h
def Nn (h f:Pos→EO):Prop:=∀k,blank (f k)=true→blank (h k)=true
def bv (B:Nat)(φ:Gx)(h:Pos→EO)(w:World)(ψ:Gx)(f:Pos→EO)(g:World):Prop:=φ.le ψ∧(∀W,Inv B W φ h w→Inv B W ψ f g)∧Nn h f
def bv.refl {B:Nat}{φ:Gx}{h:Pos→EO}{w:World}:bv B φ h w φ h w:=⟨Gx.le.refl φ,λ_ h=>h,λ_ h=>h⟩
def OZ {o:EO}(h:blank o=true):rE o=true∨o = .none:=by cases o <;> first|exact .inl rfl|exact .inr rfl|cases h
def WZ {wr:Option (Pos×EO)}(j:∀k g,wr=some (k,g)→blank g=false):Nn h (rR h wr):=λk f=>by
 cases wr with
 |none=>exact f
 |some p=>
  obtain⟨l,g⟩:=p;simp[rR,upd]at f;split at f
  ·rw[j l g rfl]at f;cases f
  ·exact f
def bv.trans {B:Nat}{j g f:Gx}{P J C:Pos→EO}{r p l:World}(a:bv B j P r g J p)(b:bv B g J p f C l):bv B j P r f C l:=⟨a.1.trans b.1,λW h=>b.2.1 W (a.2.1 W h),λk R=>a.2.2 k (b.2.2 k R)⟩
def Inv.self (f:Inv B W φ h w):Inv B ⟨w,φ⟩ φ h w :=
 ⟨Below.refl _ _,Kp.refl _,Gx.le.refl _,λ_ _=>⟨λ_=>rfl,rfl,rfl,λ_ _ _=>rfl⟩,f.size,f.obj,f.sep⟩
def oZ {U :Pos→EO}{w' :World}(C:φ.le ψ)(f:Inv B ⟨w,φ⟩ ψ U w')(r:Nn h U):bv B φ h w ψ U w' :=
 ⟨C,(λW j=>⟨j.below.trans f.below,j.kp.trans f.kp,j.le.trans C,(λk hk=>by
  obtain⟨R,a2,a3,a4⟩:=f.res k hk;rcases OZ (r k (UQ hk))with h1|h1
  ·obtain⟨b1,b2,P,b4⟩:=j.res k h1;exact⟨λg=>(R g).trans (b1 g),a2.trans b2,a3.trans P,λg l J=>(a4 g l J).trans (b4 g l (by rw[←J];exact(R g).symm))⟩
  ·obtain⟨b1,b2,P⟩:=j.free h1;have T:∀{α:Type} {x y:Option α},y=none→(∀v,x=some v→y=some v)→x=none:=λ{α x y} hy hx=>by
    cases x with
    |none=>rfl
    |some v=>rw[hx v rfl]at hy;cases hy
   refine⟨λg=>(R g).trans ((b1 g).trans (T (b1 g) λv p=>j.le.loc k g v p).symm),a2.trans (b2.trans (T b2 λv p=>j.le.val k v p).symm),a3.trans (P.trans (T P λv p=>j.le.mu k v p).symm),λg l J=>?_⟩;rw[R g,show(W0.φ ⟨w,φ⟩).loc k g=φ.loc k g from rfl,b1 g]at J;cases J),f.size,f.obj,f.sep⟩),r⟩
def ER (φ:Gx)(e:Env)(f:Array Value):Prop:=∀t,t+2≤2^64→RT φ (e.get .unk (pos t)) (f.getD t undef)
def ER.mono {φ ψ:Gx}(h:φ.le ψ){e:Env}{f:Array Value}(j:ER φ e f):ER ψ e f:=λt g=>(j t g).mono h
def abK {t f:Nat}(h:t+2≤2^64)(l:f+2≤2^64)(e:pos t=pos f):t=f:=by have g:=sA 64 t h;have j:=sA 64 f l;unfold pos at e;rw[e,j]at g;exact g.symm
def ER.set {φ:Gx}{e:Env}{tmps:Array Value}(r:ER φ e tmps){d:Nat}(p:d<tmps.size)(g:d+2≤2^64){out:TV}{v:Value}(l:RT φ out v):ER φ (PM.set .unk (pos d) e out) (tmps.setIfInBounds d v):=λt j=>by
 rw[PM.get_set];simp[upd,n_,aj4];by_cases f:d=t
 ·subst f;rw[β rfl,β rfl,β p];exact l
 ·rw[B' (λe=>f (abK g j e)),B' f];have:=r t j;rw[n_]at this;exact this
def gi (j:ER φ e a.tmps)(x:Operand):RT φ (bn e (ng x)) (a.eval x):=by
 cases x with
 |tmp t=>
  simp only[ng];split
  next h=>exact j t h
  ·exact trivial
 |const v=>
  simp[ng,bn,agx];split
  next p hp=>exact Dy hp φ
  ·exact trivial
 |global g=>exact rfl
 |func f=>exact rfl
def tC {φ:Gx}{e:Env}{a:Act}(g:ER φ e a.tmps):∀f:List Operand,RTs φ (aX e (f.map ng)) (f.map a.eval)
 |[]=>trivial
 |x::f=>⟨gi g x,tC g f⟩
def dx (p:ER φ e a.tmps){l:Nat}(f:a.tmps.size=l){d:Option Tmp}{j:Option Pos}(g:RK l d=some j){out:TV}{v:Value}(r:RT φ out v):ER φ (aO e j out) (a.put d v).tmps∧(a.put d v).tmps.size=l:=by
 unfold RK at g;split at g
 ·cases g;exact⟨p,f⟩
 next d=>
  split at g
  next h=>cases g;exact⟨p.set (by rw[f];exact h.1) h.2 r,by simp[Act.put,f]⟩
  ·cases g
def rS:RT φ (.tup []) undef:=⟨[],rfl,rfl⟩
def EK (hE:ER φ e a.tmps){p:Array Oper}{g:Option (Pos×Bool)}(r:Ax p.toList o.guard=some g){b:Bool}(C:gd e g=some b):Region.wanted o (yielded p a.tmps)=b:=by
 unfold Ax at r;split at r
 next hgd=>cases r;cases C;simp[Region.wanted,hgd]
 next j want hgd=>
  split at r
  next d R=>
   split at r
   ·rename_i U;cases r;have f:=hE d U;have P:yielded p a.tmps j=match a.tmps[d]? with|some (.bool b)=>some b|_=>none:=by
     have R:(p[j]?).bind (·.dst)=some d:=by simpa using R
     unfold yielded;rw[R];rfl
    simp[Region.wanted,hgd,P];simp[gd]at C;rw[n_]at f;split at C
    ·rename_i c T;simp at C;rw[T]at f;have f:=Dc f;have:a.tmps[d]? = some (.bool c):=by
      cases J:a.tmps[d]? with
      |none=>rw[J]at f;cases f
      |some x=>rw[J]at f;rw[show x=Value.bool c from f]
     rw[this];subst C;cases want <;> cases c <;> rfl
    ·rename_i l T;simp at C;rw[T]at f;obtain⟨vs,_,f⟩:=f;subst C;cases J:a.tmps[d]? with
     |none=>rfl
     |some x =>rw[J]at f;rw[show x=Value.tuple vs.toArray from f];rfl
    ·cases C
   ·cases r
  ·cases r
def mJ.more {p:Glt}(h:mJ p P B W){r:Pos→EO}(l:Inv B W φ r w):mJ p P B ⟨w,ψ⟩:=⟨λg t v C f j=>h.1 g t v C f (l.below.trans j),λf j=>h.2 f (l.below.trans j)⟩
structure Lq where
 j:Pos
 l:Nat
 lrec:Loop
 env:Env
 tmps:Array Value
def Ctx (f:List Lq)(φ:Gx)(w:World):Prop:=∀q∈f,(∃l,φ.loc q.j 0=some l∧l.b=q.l)∧w.heap[q.l]? = some (.loop q.lrec)∧ER φ q.env q.tmps
def Ctx.more {g:List Lq}{R :Pos→EO}{j :World}(r:Ctx g φ w)(C:Inv B W φ h w)(f:bv B φ h w ψ R j):Ctx g ψ j:=λq p=>by obtain⟨⟨l,P,J⟩,h3,h4⟩:=r q p;exact⟨⟨l,f.1.loc _ _ _ P,J⟩,(f.2.1 _ C.self).kp.keep _ _ h3 rfl,h4.mono f.1⟩
def bE (P:Program)(f:FuncId):Prop:=∃fn,P.funcs[f]? = some fn∧fn.body.isSome=true∧(fn.name == "runtime.NumGoroutine")=false
def IM (P:Program)(t:Tgt)(φ:Gx)(w:World)(r:List Value)(R:Ending→World→Prop):Prop:=match t with
 |.fn f=>bE P f∧Calls P f r.toArray w R
 |.yld j=>∀l,φ.loc j 0=some l→∀(ro:Option Nat) (n:Nat),∃f g assign p,(Instr.yield l.b r.toArray).run P w = .ok (.round l.b f g assign p) w∧RoundIn (RF ro) n P l.b f g assign p w R
def FP (B:Nat)(φ:Gx)(h:Pos→EO)(w:World)(g:Pos→EO)(out:TV):Ending→World→Prop:=λe f=>∃v ψ,e = .returned v∧bv B φ h w ψ g f∧RT ψ out v
def ry (P:Program)(p:Glt)(B:Nat)(call:Ck)(j:List Lq):Prop:=∀b t args d n v g l,call b t args d n = .ok v g l→∀W φ w,mJ p P B W→Inv B W φ (HP.ov b d).get w→∀f,RTs φ args f→Ctx j φ w→IM P t φ w f (FP B φ (HP.ov b d).get w (HP.ov b g).get v)
def Pd (P:Program)(C:Glt)(B:Nat)(p:Yk)(l:List Lq):Prop:=∀b j args d n v g r,p b j args d n = .ok v g r→∀W φ w,mJ C P B W→Inv B W φ (HP.ov b d).get w→∀f,RTs φ args f→Ctx l φ w→IM P (.yld j) φ w f (FP B φ (HP.ov b d).get w (HP.ov b g).get v)
structure CkOk (P:Program)(Gl:Glt)(B:Nat)(ck:Callk)(Γ:List Lq):Prop where
 call:ry P Gl B ck.call Γ
 iter:∀yk' Γ',Pd P Gl B yk' Γ'→ry P Gl B (ck.iter yk') Γ'
section
variable {P:Program}{Gl:Glt}{B:Nat}{W:W0}{φ:Gx}{h:Pos→EO}{w:World}{o:Oper}{a:Act}{e:Env}{nt:Nat}{ops:Array Oper}{Γ:List Lq}
variable{fo:FO}{al:Bool}{ro:Option Nat}{n i:Nat}{out:TV}{wr:Option (Pos×EO)}{x:Src}{dst:Option Pos}{args:List Src}{g:Option (Pos×Bool)}{t:Tgt}{vs:List TV}
def RJ (f:cOp P Gl nt ops.toList o = .op fo al):∃dst j,RK nt o.dst=some dst∧Ax ops.toList o.guard=some fo.guard∧cK P Gl o.op=some (fo.k,j)∧fo.args=j.map ng∧fo.dst=dst∧al=kAl fo.k:=by
 unfold cOp at f;split at f
 ·cases f
 next dst r=>
  split at f
  ·cases f
  next g p=>
   split at f
   next k j l=>injection f with h1 h2;subst h1;subst h2;exact⟨dst,j,r,p,l,rfl,rfl,rfl⟩
   ·split at f
    ·split at f <;> cases f
    ·split at f <;> cases f
    ·cases f
def M0 (hi:ops[i]? = some o)(hc:cOp P Gl nt ops.toList o = .op fo al)(U:Inv B W φ h w)(hG:mJ Gl P B W)(hE:ER φ e a.tmps)(p:ff ro o){f:Pos}(hf:al=true→h f = .none)(g:stepF e h f fo=some (out,wr))
  {Q:Exit→Act→World→Prop} {K:Act→World→Prop} (T:∀ψ v j,bv B φ h w ψ (rR h wr) j→RT ψ out v→K (a.put o.dst v) j):wpOpIn (RF ro) n P ops Q i K a w:=by
 obtain⟨dst,xs,_,hg,hk,l,_,C⟩:=RJ hc;unfold wpOpIn;simp[hi];unfold stepF at g;split at g
 next b hb=>
  rw[EK hE hg hb];cases b with
  |false =>cases g;simp;exact⟨λ_ _=>trivial,T φ undef w bv.refl rS⟩
  |true =>simp;refine sE p ?_;have R:=tC hE xs;rw[←l]at R;obtain⟨h1,h2⟩:=aax (hG.more U (ψ:=φ)) U.self hk (λh'=>hf (by rw[C,h'])) R g;refine h1 K Q λv ψ j r J hr=>T ψ v j (oZ r J (WZ h2)) hr
 ·cases g
def Cs (f:cOp P Gl nt ops.toList o = .nxt x dst):∃j,o.op = .next j false∧x=ng j∧RK nt o.dst=some dst∧o.guard=none:=by
 unfold cOp at f;split at f
 ·cases f
 next dst' p=>
  split at f
  ·cases f
  next g hg=>
   split at f
   ·cases f
   ·split at f
    ·split at f <;> cases f
    ·rename_i j l;split at f
     ·injection f with h1 h2;subst h1;subst h2;refine⟨j,l,rfl,p, ?_⟩;unfold Ax at hg;split at hg
      ·assumption
      ·split at hg
       ·split at hg
        ·cases hg
        ·cases hg
       ·cases hg
     ·cases f
    ·cases f
def Ng {h:Pos→EO}{t:TV}{k:Pos}{j:EO}(f:Ed h t=some (out,some (k,j))):blank j=false:=by
 unfold Ed at f;split at f
 ·split at f
  ·simp only[θ,χ]at f;cases f.2
  next m since seen sp hk=>
   split at f
   ·rename_i l clock r;split at f
    ·cases g:(seen.isEmpty||l.isEmpty||l.any (λe=>Nat.blt e.born sp))with
     |false=>rw[g]at f;cases f
     |true=>rw[g]at f;simp only[G',θ,χ]at f;cases f.2
    ·rename_i x p;cases g:(Nat.blt x.born since&&Nat.blt x.born sp)with
     |false=>rw[g]at f;cases f
     |true =>rw[g]at f;cases f;rfl
    ·cases f
   ·cases f
  ·cases f
 ·cases f
def Vd (R:ops[i]? = some o)(U:cOp P Gl nt ops.toList o = .nxt x dst)(hI:Inv B W φ h w)(hE:ER φ e a.tmps)(j:ff ro o)(r:Ed h (bn e x)=some (out,wr))
  {Q:Exit→Act→World→Prop} {K:Act→World→Prop} (hK:∀ψ v f,bv B φ h w ψ (rR h wr) f→RT ψ out v→K (a.put o.dst v) f):wpOpIn (RF ro) n P ops Q i K a w:=by
 obtain⟨C,g,rfl,_,T⟩:=Cs U;unfold wpOpIn;simp[R];rw[β (by simp[Region.wanted,T])];refine sE j ?_;refine(abZ hI.self g (gi hE C) r).1 K Q λv ψ f l p J=>hK ψ v f (oZ l p (WZ λk o' e=>by subst e;exact Ng r)) J
def zn (j:cOp P Gl nt ops.toList o = .call args dst g):∃cl f,o.op = .call cl∧cl.callee = .value f∧args=(f::cl.args.toList).map ng∧RK nt o.dst=some dst∧Ax ops.toList o.guard=some g:=by
 unfold cOp at j;split at j
 ·cases j
 next dst' C=>
  split at j
  ·cases j
  next g' r=>
   split at j
   ·cases j
   ·split at j
    ·rename_i cl l;split at j
     next f p=>injection j with h1 h2 h3;subst h1;subst h2;subst h3;exact⟨cl,f,l,p,Ψ,C,r⟩
     ·cases j
    ·split at j <;> cases j
    ·cases j
def yZ (hI:Inv B W φ h w){args:List TV}(R:cL h args=some (t,vs)){us:List Value}(hr:RTs φ args us):∃f U,us=f::U∧match t with
  |.fn g=>∃first J,f = .func (.func g) first J∧RTs φ vs (first.toList++U++J.toList)
  |.yld j=>∃l,φ.loc j 0=some l∧f = .func (.yield l.b) #[] #[]∧RTs φ vs U:=by
 unfold cL at R;split at R
 next f r=>cases R;obtain⟨v,ws,rfl,p,T⟩:=hr.cons;have p:some (Value.func (.func f) #[] #[])=some v:=p;injection p with p;exact⟨v,ws,rfl, #[], #[],p.symm,by simpa using T⟩
 next k r=>
  obtain⟨v,ws,rfl,p,T⟩:=hr.cons;have P:=hI.obj k;have p:den φ (.clo k)=some v:=p;simp only at R;split at R
  next f first J hk=>
   cases R;rw[hk]at P;obtain⟨_,A,C,q1,q2,q3⟩:=P;simp[den,q3]at p;exact⟨v,ws,rfl,A.toArray,C.toArray,p.symm,by simpa using((Lb q1).append T).append (Lb q2)⟩
  next hk=>cases R;rw[hk]at P;obtain⟨_,l,q1,_,q3,_⟩:=P;simp[den,q3]at p;exact⟨v,ws,rfl,l,q1,p.symm,T⟩
  ·cases R
 ·cases R
def Fv (hi:ops[i]? = some o)(hc:cOp P Gl nt ops.toList o = .call args dst g)(hgd:gd e g=some true)(hI:Inv B W φ h w)(hE:ER φ e a.tmps)(hnd:ff ro o)(he:cL h (aX e args)=some (t,vs)){h':Pos→EO}
  (hck:∀us,RTs φ vs us→IM P t φ w us (FP B φ h w h' out)) {Q:Exit→Act→World→Prop} {K:Act→World→Prop} (hK:∀ψ v w',bv B φ h w ψ h' w'→RT ψ out v→K (a.put o.dst v) w'):wpOpIn (RF ro) n P ops Q i K a w:=by
 obtain⟨cl,f,hop,hcl,rfl,_,hg⟩:=zn hc;unfold wpOpIn;simp[hi];rw[EK hE hg hgd,β rfl];obtain⟨fv,xs,hus,ht⟩:=yZ hI he (tC hE (f::cl.args.toList));simp at hus;obtain⟨hf,hxs⟩:=hus;have post:∀e w',FP B φ h w h' out e w'→∃v,e = .returned v∧K (a.put o.dst v) w':=λe w' hr=>by obtain⟨v,ψ,h1,h2,h3⟩:=hr;exact⟨v,h1,hK ψ v w' h2 h3⟩
 cases t with
 |fn f'=>
  obtain⟨first,caps,h1,h2⟩:=ht;obtain⟨⟨fn,f1,f2,f3⟩,hcalls⟩:=hck _ h2;have hbody:¬fn.body=none:=by cases hb:fn.body <;> simp_all
  have f3:¬fn.name = "runtime.NumGoroutine":=by simpa using f3
  have hrun:(execOp a.eval o).run P w = .ok (.enter f' (first.toList++xs++caps.toList).toArray) w:=by
   have e2:first++cl.args.map a.eval++caps=(first.toList++xs++caps.toList).toArray:=m_ (by simp[hxs])
   unfold execOp;simp[hop,resolve,hcl,hf,h1,Deferred.ofValue,ξ,a_,invoke,callFunc,P_,f1,e2];simp[f3,hbody]
  refine sE hnd ?_;unfold Oper.wp;rw[hrun];refine hcalls.mono ?_;intro e w' hr;obtain⟨v,rfl,hk⟩:=post e w' hr;exact hk
 |yld j=>
  obtain⟨l,h1,h2,h3⟩:=ht;obtain⟨f',tmps,assign,body,hy,hround⟩:=hck _ h3 l h1 ro (n-1);have hrun:(execOp a.eval o).run P w = .ok (.round l.b f' tmps assign body) w:=by have e2:cl.args.map a.eval=xs.toArray:=m_ (by simp[hxs]);unfold execOp;simp[hop,resolve,hcl,hf,h2,Deferred.ofValue,ξ,a_,invoke,e2,hy]
  refine⟨λ_ _=>trivial, ?_⟩;have es:o.semAt (RF ro).round a.eval=execOp a.eval o:=by
   obtain rfl|hd:=hnd
   ·rfl
   ·exact Oper.semAt_eq _ _ _ hd
  rw[es,hrun,Oper.uponIn_round];refine⟨(λq=>by cases q),hround.mono ?_⟩;intro e w' hr;obtain⟨v,rfl,hk⟩:=post e w' hr;exact hk
def C4 (p:ops[i]? = some o)(J:cOp P Gl nt ops.toList o = .call args dst g)(j:gd e g=some false)(T:ER φ e a.tmps)
  {Q:Exit→Act→World→Prop} {K:Act→World→Prop} (R:K (a.put o.dst undef) w):wpOpIn (RF ro) n P ops Q i K a w:=by
 obtain⟨cl,f,l,C,rfl,_,r⟩:=zn J;unfold wpOpIn;simp[p];rw[EK T r j];simp;exact⟨λ_ _=>trivial,R⟩
end
variable [SymVal]
structure Rl (B lo:Nat)(U:Gx)(h0:Pos→EO)(T:World)(nt:Nat)(e:Env)(h:Pos→EO)(a:Act)(w:World):Prop where
 ex:∃φ,bv B U h0 T φ h w∧ER φ e a.tmps
 sz:a.tmps.size=nt
 df:∃ms:List Nat,a.defers=ms.map (λD=>{ target :=.collected D,args :=#[] })∧ms.Nodup∧∀D∈ms,lo≤D∧w.heap[D]? = some (.deferred (some []))
def C7 (b:HP)(d:DM)(wr:Option (Pos×EO)):(HP.ov b (setW d wr)).get=rR (HP.ov b d).get wr:=by
 cases wr with
 |none=>rfl
 |some p=>exact HP.get_set b d p.1 p.2
section
variable {P:Program}{Gl:Glt}{B lo:Nat}{W:W0}{U:Gx}{h0:Pos→EO}{T:World}{nt:Nat}{ops:Array Oper}{Γ:List Lq}{ck:Callk}
def Rl.step (j:Inv B W U h0 T){e:Env}{h:Pos→EO}{a:Act}{w:World}(r:Rl B lo U h0 T nt e h a w){φ ψ:Gx}{J:Pos→EO}{l:World}(p:bv B U h0 T φ h w)(hE:ER φ e a.tmps)(f:bv B φ h w ψ J l){d:Option Tmp}{g:Option Pos}(hd:RK nt d=some g){out:TV}{v:Value}(R:RT ψ out v):Rl B lo U h0 T nt (aO e g out) J (a.put d v) l:=by obtain⟨h1,h2⟩:=dx (hE.mono f.1) r.sz hd R;obtain⟨P,m1,m2,m3⟩:=r.df;refine⟨⟨ψ,p.trans f,h1⟩,h2,P, ?_,m2,λD C=>⟨(m3 D C).1,(f.2.1 _ (p.2.1 _ j).self).kp.keep _ _ (m3 D C).2 rfl⟩⟩;cases d <;> exact m1
def jZ (B lo:Nat)(U:Gx)(h0:Pos→EO)(T:World)(nt:Nat)(e:Env)(h:Pos→EO):Exit→Act→World→Prop
 |.normal,a,w=>Rl B lo U h0 T nt e h a w
 |_,_,_=>False
def bp {ro:Option Nat}{n:Nat}(j:Inv B W U h0 T)(hG:mJ Gl P B W)(C:CkOk P Gl B ck Γ)(hcx:Ctx Γ U T)(hnd:∀o∈ops.toList,ff ro o){b:HP}{e':Env}{d':DM}{n':Pos}{Q:Exit→Act→World→Prop}(hQ:∀a w,Rl B lo U h0 T nt e' (HP.ov b d').get a w→Q .normal a w):∀(l:List Oper) (i:Nat) (e:Env) (d:DM) (f:Pos) (a:Act) (w:World),ops.toList.drop i=l →
  aF ck b (ir P Gl nt ops.toList l) e d f = .ok e' d' n'→Rl B lo U h0 T nt e (HP.ov b d).get a w→wpOpsIn (RF ro) n P ops Q (List.range' i (ops.size-i)) a w
 |[],i,e,d,f,a,w,hd,h,hr=>by
  have hsz:ops.size-i=0:=by have:=Y' List.length hd;simpa using this
  rw[hsz];simp only[ir,aF]at h;injection h with h1 h2 h3;subst h1;subst h2;exact hQ _ _ hr
 |o::l,i,e,d,f,a,w,hd,h,hr=>by
  have hlt:i<ops.size:=by have:=Y' List.length hd;simp at this;omega
  have R:ops[i]? = some o:=by
   have:(ops.toList.drop i)[0]? = some o:=by rw[hd];rfl
   rw[b_]at this;simpa using this
  have hd':ops.toList.drop (i+1)=l:=by rw[←List.drop_drop,hd];rfl
  have hno:ff ro o:=hnd o (q_.2 (y? R));rw[show ops.size-i=(ops.size-(i+1))+1 by omega,U_,wpOpsIn_cons];obtain⟨φ,hs,hE⟩:=hr.ex;have hI:=hs.2.1 _ j;simp[ir,aF]at h;split at h
  next fo al hc=>
   obtain⟨dst,xs,p,_,_,_,hfd,_⟩:=RJ hc;cases J:bD al (HP.ov b d).get f with
   |false=>rw[J]at h;cases h
   |true=>
    rw[J,G']at h;split at h
    ·rename_i out wr hst;have hf:al=true→(HP.ov b d).get f = .none:=λhal=>by
      subst hal;unfold bD at J;simp only at J;split at J
      next hn=>exact hn
      ·cases J
     refine M0 R hc hI hG hE hno hf hst λψ v w' r hv=>?_;have:=hr.step j hs hE r p hv;rw[←C7]at this;rw[hfd]at h;exact bp j hG C hcx hnd hQ l (i+1) _ _ _ _ w' hd' h this
    ·cases h
  next args dst g hc=>
   obtain⟨_,_,_,_,_,p,_⟩:=zn hc;split at h
   ·rename_i hg;split at h
    ·rename_i t vs hen;split at h
     next out d1 n1 hcall=>refine Fv R hc hg hI hE hno hen (λus hus=>C.call _ _ _ _ _ _ _ _ hcall W φ w hG hI us hus (hcx.more j hs)) λψ v w' r hv=>?_;exact bp j hG C hcx hnd hQ l (i+1) _ _ _ _ w' hd' h (hr.step j hs hE r p hv)
     ·cases h
    ·cases h
   next hg=>refine C4 R hc hg hE ?_;exact bp j hG C hcx hnd hQ l (i+1) _ _ _ _ w hd' h (hr.step j hs hE bv.refl p rS)
   ·cases h
  next x dst hc=>
   obtain⟨_,_,_,p,_⟩:=Cs hc;split at h
   next out wr hst=>refine Vd R hc hI hE hno hst λψ v w' r hv=>?_;have:=hr.step j hs hE r p hv;rw[←C7]at this;exact bp j hG C hcx hnd hQ l (i+1) _ _ _ _ w' hd' h this
   ·cases h
  ·cases h
end
