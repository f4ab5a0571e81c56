/- Closed runs. -/
import Derived.Test.YthfdnklcgfkjoaaGreatDoorCloQ
import Derived.Lib.MakeNoZero
import Derived.Lib.UnsafeStr
import Derived.Laws.Externs
import Derived.Lib.Bytealg
import Derived.KernelRfl
set_option linter.all false
namespace Go.Proofs.YthfdnklcgfkjoaaGreatDoor.Clo
open Go Go.RowKit
variable [SymVal]
section
variable {P:Program}{B:Nat}{J:W0}{φ:Gx}{h:Pos→EO}{w:World}{o:Oper}{a:Act}
def Ht {s:Nat}:∀{g:List Nat} {C:List TV} {i:Nat} {l:List (List CV)} {f:List Value},Rr s i g C=some l→RTs φ C f→g=List.range' i f.length∧l.length=f.length∧(∀v∈f,v.cells.size=s)∧bq φ l.flatten=some (f.map λv=>v.cells.toList).flatten∧∀a∈l,a.length=s
 |[],[],i,l,f,h,hr=>by cases h;rw[hr.nil];exact⟨rfl,rfl,(λv hv=>by cases hv),rfl,λa ha=>by cases ha⟩
 |j::js,.pv p::C,i,l,f,h,hr=>by
  obtain⟨v,ws,rfl,h1,h2⟩:=hr.cons;simp[Rr]at h;cases r:(Nat.beq i j&&Nat.beq p.cells.length s)with
  |false=>rw[r]at h;cases h
  |true=>
   rw[r,ξ]at h;simp at r;obtain⟨rfl,c2⟩:=r;split at h
   ·rename_i l' hl;cases h;obtain⟨q1,q2,q3,U,T⟩:=Ht hl h2;have R:=dD (φ:=φ) (p:=p) (v:=v) h1;refine⟨by rw[q1,q_,Y_],by simp[q2],λu J=>?_, ?_,λb P=>?_⟩
    ·obtain rfl|J:=N'.1 J
     ·rw[←Array.length_toList,bo R,c2]
     ·exact q3 u J
    ·rw[G_,i?,G_];exact cM R U
    ·obtain rfl|P:=N'.1 P
     ·exact c2
     ·exact T b P
   ·cases h
 |[],_::_,_,_,_,h,_=>by simp[Rr]at h
 |_::_,[],_,_,_,h,_=>by simp[Rr]at h
 |_::_,.unk::_,_,_,_,h,_=>by simp[Rr]at h
 |_::_,.tup _::_,_,_,_,h,_=>by simp[Rr]at h
def JE (f:Operand→Value):∀(l:List (Nat×Operand)) (i:Nat),l.map (·.1)=List.range' i (l.map λp=>f p.2).length→l.map (λp=>(p.1,f p.2))=(List.range' i (l.map λp=>f p.2).length).zip (l.map λp=>f p.2)
 |[],i,_=>rfl
 |p::l,i,h=>by simp only[i?,q_,Y_,G']at h;simp only[i?,q_,Y_,abs,G',π,A_];exact⟨h.1,JE f l (i+1) h.2⟩
variable{f:Pos}{C:List TV}{out:TV}{wr:Option (Pos×EO)}
def T2 {b N s n:Nat}{cap:Option Nat}(g:Bx cap n N 0=true):RT (φ.add f ⟨b,N,s⟩) (.pv (.one (.sl f 0 0 n cap))) (.slice (some ⟨b,0,none⟩) n (iq cap N 0)):=by show den _ (.sl f 0 0 n cap)=_;simp[den,Gx.add_self,g]
def amx (hI:Inv B J φ h w){t e:TypeId}{len:Nat}{parts:Array (Nat×Operand)}(ho:o.op = .buildSlice t len parts)(hu:P.underlying t=some (.slice e)){z:PV}(hz:eQ P e=some z)(hzs:z.cells.length=ap P e)(hs0:ap P e≠0)(hf:h f = .none)(hv:RTs φ C ((parts.toList.map (·.2)).map a.eval))
  (hq:(akd e (ap P e) len z.cells (parts.toList.map (·.1)) C f).run h=some (out,wr)):OkX P B J φ h w o a out wr:=by
 unfold akd at hq;split at hq
 next l hl=>
  cases hc:(Nat.ble l.length len&&Nat.ble (len*ap P e) 16777216)with
  |false=>rw[hc]at hq;cases hq
  |true=>
   rw[hc,ξ]at hq;simp[bD]at hc;obtain⟨c1,c2⟩:=hc;cases hq;have hv':RTs φ C (parts.toList.map λp=>a.eval p.2):=by simpa[V?,Function.comp_def]using hv
   obtain⟨q1,q2,q3,q4,q5⟩:=Ht hl hv';obtain⟨i,zv,h1,h2,h3⟩:=gU hz;have hzd:=dD (h3 φ);have R:zv.cells.size=ap P e:=by rw[←Array.length_toList,bo hzd,hzs]
   have hzl:zv.cells.toList.length=ap P e:=by rw[ρ];exact R
   have his:i.size=ap P e:=by simp[ap,h1]
   have hzf:=E1 zv.cells len Ω;have hzz:((Array.range (len*zv.cells.size)).map (zv.cells[· % zv.cells.size]!)).size=len*ap P e:=by simp[R]
   obtain⟨r,e1,e2⟩:=uQ (ap P e) (parts.toList.map λp=>a.eval p.2) 0 ((Array.range (len*zv.cells.size)).map (zv.cells[· % zv.cells.size]!)) q3 (by rw[hzz,I',←q2];exact Y' _ c1);rw[←JE a.eval parts.toList 0 q1]at e1;rw[hzf,Q?,y?,o_,I',←q2,SI hzl _ _ c1]at e2;have U:∀b∈l++List.replicate (len-l.length) z.cells,b.length=ap P e:=λb hb=>by
    obtain hb|hb:=Q'.1 hb
    ·exact q5 b hb
    ·rw[aso hb,hzs]
   have hd:bq φ (l++List.replicate (len-l.length) z.cells).flatten=some r.toList:=by rw[List.flatten_append,e2];exact cM q4 (Ii hzd _)
   have hll:(l++List.replicate (len-l.length) z.cells).length=len:=by simp;omega
   have hsz:r.size=len*ap P e:=by rw[←Array.length_toList,bo hd,gx U,hll]
   have hlen:len≤16777216:=υ (Nat.le_mul_of_pos_right len Ω) c2;obtain⟨p1,p2⟩:=hI.newR hf (e:=e) (s:=ap P e) (N:=len) (l:=l++List.replicate (len-l.length) z.cells) (vs:=r.toList) (arr:=r) (fr:=(0,0)) (fz :=.no) Ω U hd (λj u hu=>by simpa using hu) hsz Ω Ω rfl;rw[hll]at p2;refine g9 (v :=.slice (some ⟨w.heap.size,0,none⟩) len len) ?_ p1 p2 (T2 (cap:=some len) rfl);have hne:len*ap P e=0∨len*ap P e≠0:=Ω
   have hbig:¬len*i.size>2^24:=by rw[his];omega
   have g:(parts.map λp=>(p.1,a.eval p.2)).toList=parts.toList.map λp=>(p.1,a.eval p.2):=by simp
   unfold execOp;by_cases h0:len*ap P e=0
   ·have T:((Array.range (len*ap P e)).map ((#[]:Array Value)[· % (#[]:Array Value).size]!))=((Array.range (len*zv.cells.size)).map (zv.cells[· % zv.cells.size]!)):=by
     rw[R,h0];exact Array.ext Ψ λj hj _=>by simp at hj
    simp only[ho,Instr.buildSlice,ν,ε hu,Θ,aJ hs0];rw[ο Ω];simp only[h0,h?,ν,Z',Θ];rw[h0]at T;rw[T,g,e1];simp[Go.newRow]
   ·simp only[ho,Instr.buildSlice,ν,ε hu,Θ,aJ hs0];rw[ο Ω];have hzr:(zeroValue e).run P w = .ok zv w:=by simp[zeroValue,typeInfo,h1,h2]
    simp only[h0,asK,ν,Z',Θ,hzr];rw[R]at e1;rw[R,g,e1];simp[Go.newRow]
 ·cases hq
def amt (hI:Inv B J φ h w){t e:TypeId}{x y:Operand}(ho:o.op = .makeSlice t x y)(hu:P.underlying t=some (.slice e)){z:PV}(hz:eQ P e=some z)(p:z.cells.length=ap P e)(hs0:ap P e≠0)(hf:h f = .none)(hv:RTs φ C [a.eval x,a.eval y])
  (g:(aj9 e (ap P e) (xv P e) z.cells C f).run h=some (out,wr)):OkX P B J φ h w o a out wr:=by
 unfold aj9 at g;split at g
 ·obtain⟨v1,ws,e1,hr1,hr2⟩:=hv.cons;obtain⟨v2,e2,hr3⟩:=hr2.one;subst e2;simp at e1;obtain⟨e1,e2⟩:=e1;subst e1;subst e2;split at g
  next k1 n k2 c=>
   cases U:(Nat.ble n c&&Nat.ble c 16777216&&Nat.ble (c*xv P e) 16777216)with
   |false=>rw[U]at g;cases g
   |true=>
    rw[U,ξ]at g;simp[bD]at U;obtain⟨⟨c1,c2⟩,c3⟩:=U;cases g;obtain⟨i,zv,h1,h2,h3⟩:=gU hz;have r:=dD (h3 φ);have hzv:zv.cells.size=ap P e:=by rw[←Array.length_toList,bo r,p]
    have R:i.size=ap P e:=by simp[ap,h1]
    have hib:i.bytes=xv P e:=by simp[xv,h1]
    have hzf:=E1 zv.cells c Ω;have hd:=Ii r c;have T:∀b∈List.replicate c z.cells,b.length=ap P e:=λb hb=>by rw[aso hb,p]
    obtain⟨p1,p2⟩:=hI.newR hf (e:=e) (s:=ap P e) (N:=c) (l:=List.replicate c z.cells) (vs:=(List.replicate c zv.cells.toList).flatten) (arr:=madeCells zv.cells (c*i.size)) (fr:=(0,0)) (fz :=.no) Ω T hd (λj u hu=>by
     rw[R,←hzv,←Array.getElem?_toList,madeCells,hzf];exact hu) (by rw[size_madeCells,R]) Ψ Ξ rfl
    rw[atH]at p2;refine g9 (v :=.slice (some ⟨w.heap.size,0,none⟩) n c) ?_ p1 p2 (T2 (cap:=some c) rfl);have hx:a.eval x = .int k1 (n:Int):=dg hr1;have hy:a.eval y = .int k2 (c:Int):=dg hr3;have hb':(i.bytes:Int)*(c:Int)≤281474976710656:=by
     have h:((c*xv P e:Nat):Int)≤16777216:=Ω
     rw[Int.natCast_mul,Int.mul_comm]at h;rw[hib];omega
    have:=run_make (P:=P) w t e i zv hu h1 h2 k1 k2 n c Ω Ω hb' Ω;unfold execOp;simp[ho,hx,hy,ν,this,Z']
  ·cases g
 ·cases g
end
open Go Go.RowKit
variable [SymVal]
section
variable {P:Program}{B:Nat}{J:W0}{φ:Gx}{h:Pos→EO}{w:World}{o:Oper}{a:Act}
variable{t e:TypeId}{w' :World}{cl:Call}{x:Operand}{C:List TV}{out:TV}{wr:Option (Pos×EO)}{fn:Func}{f:FuncId}{fr k:Pos}{arr:Array Value}{s g:Nat}{el:PT Ch}{fz:Fz}{l:Loc}
def Kj {tx ty:TypeId}(hu:P.underlying t=some (.slice e))(hs0:ap P e≠0){ad ax:Addr}{n c m c':Nat}{vs:List Value}(hfc:(loadCells ax (Nat.min m n*ap P e)).run P w = .ok vs.toArray w)(hst:(storeCells ad vs).run P w = .ok () w') :
  (Builtin.copy_ #[t,tx] ty #[.slice (some ad) n c,.slice (some ax) m c']).run P w = .ok (.int .i64 (Int.ofNat (Nat.min m n))) w':=by
 have hdef:Builtin.copy_ #[t,tx] ty #[.slice (some ad) n c,.slice (some ax) m c']=(do
   let .slice elem ←underlying t|stuck "copy: slice type expected"
   let cells ←loadCells ax (Nat.min m n*(←sizeOf elem))
   storeCells ad cells.toList
   pure (goInt (Nat.min m n))):=rfl
 rw[hdef];simp[ν,ε hu,aJ hs0,hfc,hst,Z'];rfl
def amF (hI:Inv B J φ h w){s:Operand}{tx e2:TypeId}(ho:o.op = .call cl)(hcl:cl.callee = .builtin .copy)(U:cl.args = #[s,x])(hty:cl.argTypes = #[t,tx])(hu:P.underlying t=some (.slice e))(hs0:ap P e≠0)(_hu2:P.underlying tx=some (.slice e2)){f:Pos}(hv:RTs φ C [a.eval s,a.eval x])(p:(akf (ap P e) false C f).run h=some (out,wr)):OkX P B J φ h w o a out wr:=by
 have hex:∀{v w'},(Builtin.copy_ #[t,tx] o.type #[a.eval s,a.eval x]).run P w = .ok v w'→(execOp a.eval o).run P w = .ok (.value v) w':=λhr=>by unfold execOp;simp[ho,resolve,hcl,U,hty,invoke,builtin,hr]
 unfold akf at p;split at p
 ·obtain⟨v1,ws,e1,hr1,hr2⟩:=hv.cons;obtain⟨v2,e2,hr3⟩:=hr2.one;subst e2;simp at e1;obtain⟨e1,e2⟩:=e1;subst e1;subst e2;split at p
  next k g T n cap=>
   obtain⟨lc,hl,ev⟩:=zK hr1;split at p
   ·rw[S',cd]at p;cases p;refine ay hI (v :=.int .i64 0) (hex ?_) (cE _ _);rw[ev,eV hr3];simp[Builtin.copy_,ε hu,Builtin.lenOf,Builtin.firstCells,aJ hs0,storeCells,goInt]
   ·rename_i j g' R m cap';obtain⟨lx,hlx,ex⟩:=zK hr3;simp[Q.run]at p;split at p
    ·rename_i l hl2;obtain⟨q1,q2,vs,q3,q4⟩:=hI.rds hlx hl2;have hvl:vs.length=Nat.min m n*ap P e:=by rw[bo q3,gx q2,q1]
     have r:=B? (P:=P) w ⟨lx.b,R,none⟩ vs q4;rw[hvl]at r;split at p
     ·rw[cd]at p;cases p;have q1:0=Nat.min m n:=q1;have:vs=[]:=by
       apply K';rw[hvl,←q1,Q?]
      subst this;refine ay hI (v :=.int .i64 0) (hex ?_) (cE _ _);rw[ev,ex];have:=Kj (P:=P) (w:=w) (tx:=tx) (ty:=o.type) hu hs0 (ad:=⟨lc.b,T,none⟩) (ax:=⟨lx.b,R,none⟩) (n:=n) (m:=m) (c:=iq cap lc.n (T/lc.s)) (c':=iq cap' lx.n (R/lx.s)) (vs:=[]) r (w':=w) (by simp[storeCells]);rw[this,←q1];rfl
     ·rename_i a0 l0;simp[Q.run]at p;split at p
      next o' hw=>rw[uj]at p;cases p;obtain⟨arr,e',z1,z2,z3⟩:=hI.wrs hw q2 hl q3;refine g9 (v :=.int .i64 (Int.ofNat (Nat.min m n))) (hex ?_) (Gx.le.refl φ) z3 (cE _ _) (rr hw);rw[ev,ex];have hst:=u? P lc.b T e' vs 0 arr w z1 (by simpa using z2) (Bo q3);simp only[arQ]at hst;exact Kj (P:=P) (w:=w) hu hs0 r hst
      ·cases p
    ·cases p
   ·cases p
  ·cases p
 ·cases p
def ane:(Extern.allGenericRows.lookup "internal/abi.NoEscape").isNone=true:=Φ
def anc:(Extern.allTypedRows.lookup "internal/abi.NoEscape").isNone=true:=Φ
def anb:Extern.allRows.lookup "internal/abi.NoEscape" = some Extern.AbiNoEscape.same:=Φ
def Jq (h:fn.name = "internal/abi.NoEscape"):Extern.find fn=some Extern.AbiNoEscape.same:=by simp only[Extern.find,h,s?.1 ane,s?.1 anc,anb];rfl
def ana:(Extern.allGenericRows.lookup "internal/bytealg.MakeNoZero").isNone=true:=Φ
def am9:Extern.allTypedRows.lookup "internal/bytealg.MakeNoZero" = some Extern.BytealgMakeNoZero.makeNoZero:=Φ
def Eb (h:fn.name = "internal/bytealg.MakeNoZero"):Extern.find fn=some (Extern.BytealgMakeNoZero.makeNoZero fn.params fn.resultTypes):=by simp only[Extern.find,h,s?.1 ana,am9];rfl
def am8:(Extern.allGenericRows.lookup "internal/bytealg.IndexByteString").isNone=true:=Φ
def am7:(Extern.allTypedRows.lookup "internal/bytealg.IndexByteString").isNone=true:=Φ
def am6:Extern.allRows.lookup "internal/bytealg.IndexByteString" = some Extern.BytealgIndexByte.indexByte:=Φ
def HX (h:fn.name = "internal/bytealg.IndexByteString"):Extern.find fn=some Extern.BytealgIndexByte.indexByte:=by simp only[Extern.find,h,s?.1 am8,s?.1 am7,am6];rfl
def Ia {e:Array Value→Sem Value}(ho:o.op = .call cl)(hcl:cl.callee = .value (.func f))(hf:P.funcs[f]? = some fn)(hb:fn.body=none)(hname:fn.name ≠ "runtime.NumGoroutine")(hn:Extern.findNext fn=none)(he:Extern.find fn=some e){v:Value}(hr:(e (cl.args.map a.eval)).run P w = .ok v w'):(execOp a.eval o).run P w = .ok (.value v) w':=by have hc:=run_callFunc_extern (P:=P) hf (by simpa using hname) (by simp[hb]) hn he (cl.args.map a.eval) w;unfold execOp;simp[ho,resolve,hcl,Act.eval,Deferred.ofValue,invoke,hc,hr]
def QT (hI:Inv B J φ h w)(ho:o.op = .call cl)(hcl:cl.callee = .value (.func f))(hf:P.funcs[f]? = some fn)(hb:fn.body=none)(hn:Extern.findNext fn=none)(he:fn.name = "internal/abi.NoEscape")(hv:RTs φ C (cl.args.toList.map a.eval))(hq:(VQ C fr).run h=some (out,wr)):OkX P B J φ h w o a out wr:=by
 unfold VQ at hq;split at hq
 ·cases hq;obtain⟨v,e1,hr⟩:=hv.one;have e2:cl.args.map a.eval = #[v]:=by
   apply i_;rw[asv,e1]
  exact ay hI (Ia ho hcl hf hb (by rw[he];decide) hn (Jq he) (by rw[e2];rfl)) hr
 ·cases hq
def La (c:Nat)(r:c<256):∀(l:List Nat) (i:Nat),cU l=true→aea c l i=if Lib.indexByte (l.map UInt8.ofNat) (UInt8.ofNat c) = -1 then -1 else Lib.indexByte (l.map UInt8.ofNat) (UInt8.ofNat c)+(i:Int)
 |[],i,_=>rfl
 |b::l,i,h=>by
  obtain⟨P,J⟩:=gP h;simp only[aea,i?,Lib.indexByte];cases C:Nat.beq b c with
  |true =>rw[q0.1 C];simp
  |false=>
   have j:(UInt8.ofNat b == UInt8.ofNat c)=false:=by have:=E_ C;rw[W?];exact λe=>this (Ci P r e)
   rw[j,S',La c r l (i+1) J];have p:=Lib.indexByte_ge (l.map UInt8.ofNat) (UInt8.ofNat c);generalize Lib.indexByte (l.map UInt8.ofNat) (UInt8.ofNat c)=x at p⊢;by_cases g:x = -1
   ·subst g;rfl
   ·have f:(x == -1)=false:=by rw[W?];exact g
    simp[g,f];rw[ο Ω];omega
def amz (hI:Inv B J φ h w)(ho:o.op = .call cl)(hcl:cl.callee = .value (.func f))(hf:P.funcs[f]? = some fn)(hb:fn.body=none)(hn:Extern.findNext fn=none)(he:fn.name = "internal/bytealg.IndexByteString")(hv:RTs φ C (cl.args.toList.map a.eval))(hq:(aeS C fr).run h=some (out,wr)):OkX P B J φ h w o a out wr:=by
 unfold aeS at hq;split at hq
 ·obtain⟨v1,ws,e1,hr1,hr2⟩:=hv.cons;obtain⟨v2,e2,hr3⟩:=hr2.one;subst e2;split at hq
  next b c=>
   cases hc:Nat.blt c 256 with
   |false=>rw[hc]at hq;cases hq
   |true=>
    rw[hc,ξ,cd]at hq;have hc:=cD.1 hc;cases hq;obtain⟨h1,h2⟩:=mF hr1;have h3:v2 = .int .u8 (c:Int):=dg hr3;have e2:cl.args.map a.eval = #[v1,v2]:=by apply i_;rw[asv,e1]
    refine ay hI (v :=.int .i64 (aea c b 0)) (Ia ho hcl hf hb (by rw[he];decide) hn (HX he) ?_) (cE _ _);rw[e2,h2,h3];unfold pw;rw[Lib.run_indexByteString];have hs:=La c hc b 0 h1;have hcc:((c:Int).toNat).toUInt8=UInt8.ofNat c:=rfl;rw[hs,hcc];by_cases hx:Lib.indexByte (b.map UInt8.ofNat) (UInt8.ofNat c) = -1
    ·rw[β hx,hx]
    ·rw[ο hx];simp
  ·cases hq
 ·cases hq
def ai1 (hI:Inv B J φ h w)(ho:o.op = .call cl)(hcl:cl.callee = .value (.func f))(hf:P.funcs[f]? = some fn)(hb:fn.body=none)(hn:Extern.findNext fn=none)(he:fn.name = "internal/bytealg.MakeNoZero")(ht:fn.resultTypes.toList=[t])(hu:P.underlying t=some (.slice e))(_hs:ap P e=1)(hv:RTs φ C (cl.args.toList.map a.eval))(hfr:h fr = .none)(hq:(X8 e C fr).run h=some (out,wr)):OkX P B J φ h w o a out wr:=by
 unfold X8 at hq;split at hq
 ·obtain⟨v1,e1,hr1⟩:=hv.one;split at hq
  next n=>
   cases hc:Nat.ble n 16777216 with
   |false=>rw[hc]at hq;cases hq
   |true=>
    rw[hc,ξ]at hq;have hc:=bD.1 hc;cases hq;have h1:v1 = .int .i64 (n:Int):=dg hr1;have e2:cl.args.map a.eval = #[v1]:=by apply i_;rw[asv,e1]
    have e3:fn.resultTypes = #[t]:=i_ ht;obtain⟨cs,q1,q2,_⟩:=Lib.run_makeNoZero (P:=P) w fn.params t e hu n Ω;obtain⟨p1,p2⟩:=hI.drew.drew.newR hfr (e:=e) (s:=1) (N:=cs.size) (l:=[]) (vs:=[]) (arr:=cs) (fr:=(0,0)) (fz :=.no) Ω (λa ha=>by cases ha) rfl (λj u hu=>by simp at hu) Ψ Ψ Ψ rfl;refine g9 (v :=.slice (some ⟨w.heap.size,0,none⟩) n cs.size) (Ia ho hcl hf hb (by rw[he];decide) hn (Eb he) (by rw[e2,e3,h1];exact q1)) p1 p2 ?_;have:=T2 (φ:=φ) (f:=fr) (b:=w.heap.size) (N:=cs.size) (s:=1) (n:=n) (cap:=none) (by simp only[Bx,I'];exact bD.2 q2);exact this
  ·cases hq
 ·cases hq
def amm (hI:Inv B J φ h w)(ho:o.op = .call cl)(R:cl.callee = .builtin .unsafeSliceData)(l:cl.args = #[x])(hv:RTs φ C [a.eval x])(f:(aeP C fr).run h=some (out,wr)):OkX P B J φ h w o a out wr:=by
 have hex:∀{v w'},(Builtin.unsafeSliceData_ cl.argTypes o.type #[a.eval x]).run P w = .ok v w'→(execOp a.eval o).run P w = .ok (.value v) w':=λp=>by unfold execOp;simp[ho,resolve,R,l,invoke,builtin,p]
 unfold aeP at f;split at f
 ·obtain⟨v,e,p⟩:=hv.one;cases e;split at f
  ·cases f;exact ay hI (v :=.pointer none) (hex (by rw[eV p];rfl)) rfl
  next k g j n cap=>
   obtain⟨r,hl,ev,T⟩:=ML p;have hc:iq cap r.n (j/r.s)≠0∧out = .pv (.one (.ptr k g j))∧wr=none:=by
    cases cap with
    |some c=>
     simp only at f;cases U:Nat.blt 0 c with
     |false=>rw[U]at f;cases f
     |true =>rw[U]at f;simp[qn,Q.run]at f;have:=cD.1 U;exact⟨by simp[iq];omega,f.1.symm,f.2.symm⟩
    |none =>simp[qn,Q.run]at f;have:=bD.1 T;exact⟨by simp[iq];omega,f.1.symm,f.2.symm⟩
   obtain⟨h1,rfl,rfl⟩:=hc;refine ay hI (v :=.pointer (some ⟨r.b,j,none⟩)) (hex ?_) ?_
   ·rw[ev];exact Lib.run_unsafeSliceData_row w _ _ _ _ _ h1
   ·show den φ (.ptr k g j)=_;simp[den,hl]
  ·cases f
 ·cases f
def Un {fits:TypeId→Bool}:∀(d:Nat) (e:TypeId) {c g:Nat} (f n:Nat),c≤g→rowAt P fits d e c f n=true→rowAt P fits d e g f n=true
 |0,_,_,_,_,_,_,h=>by simp[rowAt]at h
 |d+1,e,c,g,f,n,hc,h=>by
  unfold rowAt at h⊢;by_cases p:P.cellsOf e=0
  ·simp[p]at h
  ·simp only[p,asK]at h⊢;simp at h⊢;rcases h with⟨⟨l,j⟩,h3⟩|⟨l,j⟩
   ·exact .inl ⟨⟨l,Ω⟩,h3⟩
   ·exact .inr ⟨Ω,j⟩
def DF:∀(d:Nat) (e:TypeId) {c g:Nat} (f:Nat) (u:TypeId) (n:Nat),c≤g→liesAt P d e c f u n=true→liesAt P d e g f u n=true
 |0,_,_,_,_,_,_,_,h=>by simp[liesAt]at h
 |d+1,e,c,g,f,u,n,hc,h=>by
  unfold liesAt at h⊢;simp at h⊢;obtain h|h:=h
  ·exact .inl (Un _ e f n hc h)
  ·right;cases j:P.underlying u with
   |none=>rw[j]at h;exact h
   |some l=>
    rw[j]at h;cases l <;> first|exact h|exact DF d e f _ _ hc h
def Zl {b:Nat}{fr:Nat×Nat}(f:w.heap[b]? = some (.cells arr e fr)):(shape b).run P w = .ok (some (e,arr.size)) w:=by simp[shape,Sem.run,World.shape?,f]
def FZ {a:Addr}{fr:Nat×Nat}(f:w.heap[a.block]? = some (.cells arr e fr)):(Conv.seenAt a).run P w = .ok a w:=by simp[Conv.seenAt,viewAt,Zl f]
def En (U:Inv B J φ h w){len f:Nat}(T:h k = .row e s el len f fz)(j:φ.loc k g=some l):∃arr fr,w.heap[l.b]? = some (.cells arr e fr)∧arr.size=l.n*s∧(g=f→len≤l.n)∧l.s=s∧0<s:=by
 have p:=U.obj k;rw[T]at p;obtain⟨h0,_,_,h2,h3⟩:=p;obtain hg|hg:=T' f g
 ·rw[h2 g hg]at j;cases j
 ·obtain⟨l',q1,⟨q2,R,arr,fr,P,C,q6,q7⟩,r⟩:=h3 g hg;rw[q1]at j;cases j;exact⟨arr,fr,P,C,r,R,h0⟩
def XC:RT φ (.pv (.one .nilp)) (.pointer none):=rfl
def amp (R:Inv B J φ h w){s:TypeId}(ho:o.op = .convert s t x)(hs:P.underlying s=some (.pointer e))(ht:P.underlying t=some .unsafePointer)(hz:ap P e≠0)(hv:RTs φ C [a.eval x])(f:(aj8 C fr).run h=some (out,wr)):OkX P B J φ h w o a out wr:=by
 have hex:∀{v w'},(Conv.unsafePointer s t (a.eval x)).run P w = .ok v w'→(execOp a.eval o).run P w = .ok (.value v) w':=λr=>by unfold execOp;simp[ho,convert,ε hs,ε ht,r]
 unfold aj8 at f;split at f
 ·obtain⟨v,e1,r⟩:=hv.one;cases e1;split at f
  next k g j=>
   simp[Q.run]at f;split at f
   ·rename_i cs hcs;cases f;obtain⟨l,hl,ev⟩:=gN r;refine ay R (v :=.pointer (some ⟨l.b,j,none⟩)) (hex ?_) (by rw[←ev];exact r);obtain⟨U,q1,q2,q3,e',len,gen,fz,s',el,hk,_,_⟩:=R.rd hcs hl;have hvl:U.length=1:=by rw[bo q1,q2]
    obtain⟨u,rfl⟩:∃u,U=[u]:=by
     match U,hvl with
     |[u],_=>exact⟨u,rfl⟩
    have hc:=q3 0 u rfl;rw[pS,arQ]at hc;obtain⟨arr,fr',T,z2,_⟩:=En R hk hl;rw[asN w l.b j arr e' fr' T]at hc;have hlt:=(θ.1 hc).1;have hno:¬arr.size≤j:=Ω
    have p:=FZ (P:=P) (a:=⟨l.b,j,none⟩) T;have hsh:w.shape? l.b=some (e',arr.size):=by simp[World.shape?,T]
    rw[ev];simp[Conv.unsafePointer,ε hs,ε ht,p,cellsIn,hsh,aJ hz,hz,hno]
   ·cases f
  ·cases f;have ev:=kZ r;refine ay R (v :=.pointer none) (hex ?_) XC;rw[ev];simp[Conv.unsafePointer,ε hs,ε ht]
  ·cases f
 ·cases f
def amn (hI:Inv B J φ h w){s u:TypeId}(U:o.op = .convert s t x)(hs:P.underlying s=some .unsafePointer)(ht:P.underlying t=some (.pointer u))(p:ap P u≠0)(hv:RTs φ C [a.eval x])(f:(aj6 (abV P u) C fr).run h=some (out,wr)):OkX P B J φ h w o a out wr:=by
 have hex:∀{v w'},(Conv.unsafePointer s t (a.eval x)).run P w = .ok v w'→(execOp a.eval o).run P w = .ok (.value v) w':=λR=>by unfold execOp;simp[U,convert,ε hs,ε ht,R]
 unfold aj6 at f;split at f
 ·obtain⟨v,e1,R⟩:=hv.one;cases e1;split at f
  next k g j=>
   simp[Q.run]at f;split at f
   ·rename_i e s' el hk;cases hc:abV P u e s' j with
    |false=>rw[hc]at f;cases f
    |true=>
     rw[hc,ξ]at f;cases f;obtain⟨l,hl,ev⟩:=gN R;refine ay hI (v :=.pointer (some ⟨l.b,j,none⟩)) (hex ?_) (by rw[←ev];exact R);obtain⟨arr,fr',z1,z2,z3,_,z5⟩:=En hI hk hl;have hg0:g=0:=by
      have U:=hI.obj k;rw[hk]at U;obtain⟨_,_,_,h2,_⟩:=U;cases g with
      |zero=>rfl
      |succ g=>rw[h2 _ Ω]at hl;cases hl
     have hn:=z3 hg0;have hle:s'≤arr.size:=by rw[z2];exact Nat.le_mul_of_pos_left _ hn
     have T:liesAt P P.depth e (arr.size/P.cellsOf e) j u 1=true:=DF _ _ _ _ _ (Nat.div_le_div_right hle) hc;have r:=FZ (P:=P) (a:=⟨l.b,j,none⟩) z1;have hsh:w.shape? l.b=some (e,arr.size):=by simp[World.shape?,z1]
     rw[ev];simp[Conv.unsafePointer,ε hs,ε ht,r,variablesAt,hsh,T,aJ p,p]
   ·cases f
  ·cases f;have ev:=kZ R;refine ay hI (v :=.pointer none) (hex ?_) XC;rw[ev];simp[Conv.unsafePointer,ε hs,ε ht]
  ·cases f
 ·cases f
def Inv.frz (hI:Inv B J φ h w){len T:Nat}(hk:h k = .row e s el len T fz)(hl:φ.loc k g=some l)(p:Addr)(R:p.block=l.b)(n:Nat):Inv B J φ (upd h k (.row e s el len T .yes)) (w.freeze p n):=by
 have ho:=hI.obj k;rw[hk]at ho;obtain⟨h0,h1,hm,h2,h3⟩:=ho;obtain⟨arr0,fr0,y1,_⟩:=En hI hk hl;have f:∀b,b≠l.b→(w.freeze p n).heap[b]? = w.heap[b]?:=λb j=>by
  unfold World.freeze;split
  ·rfl
  ·simp only[r?];rw[ο (by rw[R];exact λe=>j e.symm)]
 have r:∀arr e fr,w.heap[l.b]? = some (.cells arr e fr)→∃C,(w.freeze p n).heap[l.b]? = some (.cells arr e C):=λarr e fr j=>by
  unfold World.freeze;split
  ·exact⟨fr,j⟩
  ·simp only[r?];rw[β R,j];exact⟨_,rfl⟩
 have hfs:(w.freeze p n).os=w.os∧(w.freeze p n).tape=w.tape∧(w.freeze p n).output=w.output∧w.heap.size≤(w.freeze p n).heap.size∧w.drawn≤(w.freeze p n).drawn:=by
  unfold World.freeze;split
  ·exact⟨rfl,rfl,rfl,δ _,δ _⟩
  ·exact⟨rfl,rfl,rfl,Ψ,δ _⟩
 obtain⟨f1,f2,f3,f4,f5⟩:=hfs;refine hI.turn (ψ:=φ) (Gx.le.refl φ) (λ_ _=>⟨λ_=>rfl,rfl,rfl⟩) (λU P x=>.inl ⟨U,P,x,rfl⟩) (λb j hne=>f b λe=>hne g l hl e.symm) (λU P x ob z1 z2=>?_) f1 f2 f3 f4 f5 ⟨h0,h1,hm,h2,λU hg1=>?_⟩
 ·by_cases j:P.b=l.b
  ·rw[j,y1]at z1;cases z1;cases z2
  ·rw[f _ j];exact z1
 ·obtain⟨P,q1,⟨q2,q3,arr,fr,q4,q5,q6,q7⟩,q8⟩:=h3 U hg1;refine⟨P,q1, ?_,q8⟩;by_cases j:P.b=l.b
  ·obtain⟨C,z⟩:=r arr e fr (by rw[←j];exact q4);exact⟨q2,q3,arr,C,by rw[j];exact z,q5,awN,q7⟩
  ·exact⟨q2,q3,arr,fr,by rw[f _ j];exact q4,q5,awN,q7⟩
def aml (hI:Inv B J φ h w){y:Operand}{t2:TypeId}(ho:o.op = .call cl)(hcl:cl.callee = .builtin .unsafeString)(hargs:cl.args = #[x,y])(hty:cl.argTypes = #[t,t2])(hu:P.underlying t=some (.pointer e))(hv:RTs φ C [a.eval x,a.eval y])(f:(aj5 e (Wz P) C fr).run h=some (out,wr)):OkX P B J φ h w o a out wr:=by
 have hex:∀{v w'},(Builtin.unsafeString_ #[t,t2] o.type #[a.eval x,a.eval y]).run P w = .ok v w'→(execOp a.eval o).run P w = .ok (.value v) w':=λhr=>by unfold execOp;simp[ho,resolve,hcl,hargs,hty,invoke,builtin,hr]
 unfold aj5 at f;split at f
 ·obtain⟨v1,ws,e1,hr1,hr2⟩:=hv.cons;obtain⟨v2,e2,T⟩:=hr2.one;subst e2;simp at e1;obtain⟨e1,e2⟩:=e1;subst e1;subst e2;split at f
  ·cases f;refine ay hI (v :=.string .empty) (hex ?_) (ur rfl);rw[kZ hr1,show a.eval y = .int .i64 0 from dg T];exact Lib.run_unsafeString_none w t t2 o.type none
  next k g off n=>
   obtain⟨l,hl,ev⟩:=gN hr1;split at f
   ·cases f;refine ay hI (v :=.string .empty) (hex ?_) (ur rfl);rw[ev,show a.eval y = .int .i64 0 from dg T];exact Lib.run_unsafeString_none w t t2 o.type _
   ·rename_i n;simp[Q.run]at f;split at f
    ·rename_i ls hls;split at f
     ·rename_i b hb;split at f
      ·rename_i e' el len gen fz hk;cases hc:(Nat.beq e e'&&Nat.beq off 0&&Wz P e' len off (n+1))with
       |false=>rw[hc]at f;cases f
       |true=>
        rw[hc,ξ]at f;simp at hc;obtain⟨⟨rfl,rfl⟩,c3⟩:=hc;cases f;simp[Wz,bD]at c3;obtain⟨c3,c4⟩:=c3;obtain⟨q1,q2,vs,q3,q4⟩:=hI.rds hl hls;obtain⟨p1,p2⟩:=u7 hb q3;obtain⟨arr,fr',z1,z2,z3,_,_⟩:=En hI hk hl;have hsh:w.shape? l.b=some (e,arr.size):=by simp[World.shape?,z1]
        have p:b.length=n+1:=by
         have:vs.length=(n+1)*1:=by rw[bo q3,gx q2,q1]
         rw[p2]at this;simpa using this
        have r:∀(j:Nat) (x:UInt8),(b.map UInt8.ofNat)[j]? = some x→w.cell? ((⟨l.b,0,none⟩:Addr).add j)=some (.int .u8 x.toNat):=λj x hj=>by
         rw[I?]at hj;simp at hj;obtain⟨c,hc,rfl⟩:=hj;have:=q4 j (.int .u8 (Int.ofNat c)) (by rw[p2,I?,hc];rfl);rw[this];have hcm:c<256:=by have:=d_.1 p1 c (M? hc);exact cD.1 this
         have:(UInt8.ofNat c).toNat=c:=by simp;omega
         rw[this];rfl
        have hfit:n+1≤arr.size:=by
         have U:∃x,(b.map UInt8.ofNat)[n]? = some x:=by rw[I?];exact⟨UInt8.ofNat b[n],by rw[ζ Ω];rfl⟩
         obtain⟨x,hx⟩:=U;have:=r n x hx;rw[pS,I',asN w l.b n arr e fr' z1]at this;have:=(θ.1 this).1;omega
        have hl32:len+2≤2^32:=by have ho:=hI.obj k;rw[hk]at ho;exact ho.2.1
        have R:=Lib.run_unsafeString_row (P:=P) w t t2 o.type e hu c3 l.b arr.size hsh (b.map UInt8.ofNat) (by intro e0;rw[List.map_eq_nil_iff]at e0;rw[e0]at p;simp at p) (by simpa[p]using hfit) (by simp[p];omega) r;refine g9 (v:=pw b) (hex ?_) (Gx.le.refl φ) (hI.frz hk hl ⟨l.b,0,none⟩ rfl (b.map UInt8.ofNat).length) (ur p1);rw[ev,show a.eval y = .int .i64 ((n+1:Nat):Int) from dg T];rw[asy,p]at R;rw[asy,p];exact R
      ·cases f
     ·cases f
    ·cases f
  ·cases f
 ·cases f
end
open Go Go.RowKit
variable [SymVal]
section
variable {P:Program}{B:Nat}{J:W0}{φ:Gx}{h:Pos→EO}{w:World}{o:Oper}{a:Act}
variable{C:List TV}{f:Pos}{out:TV}{wr:Option (Pos×EO)}{R:Type}{cl:Call}{k:K}{xs:List Operand}
def GM (r:Inv B J φ h w){op:BinOp}{t ty:TypeId}{x y:Operand}(p:o.op = .binOp op t x y ty)(hv:RTs φ C [a.eval x,a.eval y])(g:(tc op C f).run h=some (out,wr)):OkX P B J φ h w o a out wr:=by
 unfold tc at g;split at g
 ·obtain⟨v1,ws,R,l,T⟩:=hv.cons;obtain⟨v2,e2,j⟩:=T.one;subst e2;simp at R;obtain⟨R,e2⟩:=R;subst R;subst e2;split at g
  ·split at g
   ·rename_i k m k' n;have h1:=dg l;have h2:=dg j;split at g
    ·exact adu r p h1 h2 g
    ·exact adu r p h1 h2 g
    ·cases U:kq k k' with
     |false=>rw[U]at g;cases g
     |true =>rw[U,ξ]at g;have:=KX U;subst this;exact ajj r p h1 h2 g
   ·obtain⟨q1,q2⟩:=mF l;obtain⟨q3,q4⟩:=mF j;exact aji r p q1 q3 q2 q4 g
   ·cases g
  ·cases g
 ·cases g
def No (p:Inv B J φ h w){v:Value}(l:(execOp a.eval o).run P w = .ok (.value v) w)(j:RTs φ C [v])(g:(VQ C f).run h=some (out,wr)):OkX P B J φ h w o a out wr:=by
 unfold VQ at g;split at g
 ·cases g;obtain⟨u,e,r⟩:=j.one;cases e;exact ay p l r
 ·cases g
def pg {l:Array R}{x y:R}(h:l.toList=[x,y]):l = #[x,y]:=i_ h
def BF {l:Array R}{x:R}(h:l.toList=[x]):l = #[x]:=i_ h
def UT (T:Inv B J φ h w){b:Builtin}(R:o.op = .call cl)(l:cl.callee = .builtin b)(g:IF P cl b=some (k,xs))(hf:kAl k=true→h f = .none)(U:RTs φ C (xs.map a.eval))(r:(eI k C f).run h=some (out,wr)):OkX P B J φ h w o a out wr:=by
 unfold IF at g;split at g
 next x t j p=>
  have j:=BF j;have p:=BF p;split at g
  next hu=>cases g;exact ai7 (f:=f) T R l j p hu U r
  next hu=>cases g;exact ai9 (f:=f) T R l j p hu U r
  next hu=>cases g;exact ai8 (f:=f) T R l j p hu U r
  next hu=>cases g;exact aja (f:=f) T R l j p hu r
  ·cases g
 next x t j p=>
  have j:=BF j;have p:=BF p;split at g
  next hu=>cases g;exact ajh (f:=f) T R l j p hu U r
  ·cases g
 next s x t u j p=>
  have j:=pg j;have p:=pg p;split at g
  next e hu=>
   split at g
   ·rename_i z hz;split at g
    ·cases g
    ·rename_i hn;simp[arT]at hn;split at g
     next e2 hu2=>cases g;exact adz (f:=f) T R l j p hu hz hn.2 hn.1 (.inl ⟨rfl,e2,hu2⟩) (hf rfl) U r
     ·rename_i hu2;split at g
      next hs=>cases g;exact adz (f:=f) T R l j p hu hz hn.2 hn.1 (.inr ⟨rfl,hu2,hs⟩) (hf rfl) U r
      ·cases g
     ·cases g
   ·cases g
  ·cases g
 next s x t u j p=>
  have j:=pg j;have p:=pg p;split at g
  next e hu=>
   split at g
   ·cases g
   ·rename_i hn;split at g
    next e2 hu2=>cases g;exact amF (f:=f) T R l j p hu hn hu2 U r
    ·cases g
  ·cases g
 next x j=>have j:=BF j;cases g;exact amm (fr:=f) T R l j U r
 next x y t t2 j p=>
  have j:=pg j;have p:=pg p;split at g
  next e hu=>
   split at g
   ·cases g;exact aml (fr:=f) T R l j p hu U r
   ·cases g
  ·cases g
 next x y j=>have j:=pg j;cases g;exact aln (big:=true) (f:=f) T R l j U r
 next x y j=>have j:=pg j;cases g;exact aln (big:=false) (f:=f) T R l j U r
 ·cases g
def QY (hI:Inv B J φ h w){fi:FuncId}{fn:Func}(U:o.op = .call cl)(l:cl.callee = .value (.func fi))(j:P.funcs[fi]? = some fn)(hb:fn.body=none)(g:anL fn P=some k)(hf:kAl k=true→h f = .none)(R:RTs φ C (cl.args.toList.map a.eval))(T:(eI k C f).run h=some (out,wr)):OkX P B J φ h w o a out wr:=by
 unfold anL at g;split at g
 ·cases g
 next p=>
  have p:Extern.findNext fn=none:=by simpa using p
  split at g
  next r=>cases g;exact QT (fr:=f) hI U l j hb p r R T
  ·split at g
   next r=>cases g;exact amz (fr:=f) hI U l j hb p r R T
   ·split at g
    ·rename_i r;split at g
     ·rename_i t ht;split at g
      ·rename_i e hu;split at g
       next hs=>cases g;exact ai1 (fr:=f) hI U l j hb p r ht hu hs R (hf rfl) T
       ·cases g
      ·cases g
     ·cases g
    ·cases g
def Ry {o:Option R}(h:¬o.isSome=true):o=none:=by cases o <;> simp_all
def afO {Gl:Glt}(hG:GlOk Gl P B J)(U:Inv B J φ h w)(j:cK P Gl o.op=some (k,xs))(hf:kAl k=true→h f = .none)(hv:RTs φ C (xs.map a.eval))(T:(eI k C f).run h=some (out,wr)):OkX P B J φ h w o a out wr:=by
 have R:∀{k':K} {xs':List Operand},some (k',xs')=some (k,xs)→k'=k∧xs'=xs:=λh=>by simp at h;exact h
 cases p:o.op <;> rw[p]at j <;> simp only[cK]at j <;> first|(cases j;done)|skip
 case move x=>obtain⟨rfl,rfl⟩:=R j;exact No (f:=f) U (by unfold execOp;simp[p]) hv T
 case assign x=>obtain⟨rfl,rfl⟩:=R j;exact No (f:=f) U (by unfold execOp;simp[p]) hv T
 case pick c x y=>
  obtain⟨rfl,rfl⟩:=R j;simp[eI,X7]at T;split at T
  ·obtain⟨v1,ws,e1,hr1,hr2⟩:=hv.cons;obtain⟨v2,ws2,e2,hr3,hr4⟩:=hr2.cons;obtain⟨v3,e3,hr5⟩:=hr4.one;subst e3;subst e2;simp at e1;obtain⟨e1,e2,e3⟩:=e1;subst e1;subst e2;subst e3;split at T
   next b=>cases T;cases b <;> exact Nm (P:=P) U p hr1 hr3 hr5
   ·cases T
  ·cases T
 case alloc e=>
  split at j
  next z hz=>
   split at j
   ·cases j
   next hs=>obtain⟨rfl,rfl⟩:=R j;exact GO (f:=f) U p hz hs (hf rfl) T
  ·cases j
 case box e x=>
  split at j
  ·cases j
  next hs=>obtain⟨rfl,rfl⟩:=R j;exact UU (f:=f) U p hs (hf rfl) hv T
 case build t parts=>
  split at j
  next z fs hz hu=>
   split at j
   ·rename_i ha;split at j
    next ps hp=>obtain⟨rfl,rfl⟩:=R j;exact Am (f:=f) U p hz (.inl ⟨fs,hu,ha,hp⟩) hv T
    ·cases j
   ·cases j
  next z n e hz hu=>
   split at j
   ·cases j
   next hs=>obtain⟨rfl,rfl⟩:=R j;exact Am (f:=f) U p hz (.inr ⟨n,e,hu,hs,rfl⟩) hv T
  ·cases j
 case buildSlice t len parts=>
  split at j
  next e hu=>
   split at j
   ·rename_i z hz;split at j
    ·cases j
    next hn=>simp[arT]at hn;obtain⟨rfl,rfl⟩:=R j;exact amx (f:=f) U p hu hz hn.2 hn.1 (hf rfl) hv T
   ·cases j
  ·cases j
 case insert t m kk x=>
  split at j
  next kt e hu=>
   split at j
   next q hk=>obtain⟨rfl,rfl⟩:=R j;exact adv (f:=f) U (.inr p) hu hk hv T
   ·cases j
  ·cases j
 case load t ad=>
  split at j
  next g=>
   split at j
   next v hg=>obtain⟨rfl,rfl⟩:=R j;refine No (f:=f) U (v:=v) ?_ hv T;have:=hG.1 g t _ hg w U.below;unfold execOp;simp[p,Act.eval,ν,this,Z',gv]
   ·rename_i n hg;obtain⟨rfl,rfl⟩:=R j;cases C with
    |cons t l=>cases hv
    |nil =>cases T;refine ay U (v:=SymVal.v n) ?_ rfl;have:=hG.1 g t _ hg w U.below;unfold execOp;simp[p,Act.eval,ν,this,Z',gv]
   ·cases j
  ·split at j
   ·cases j
   ·rename_i hs;split at j
    next b hb=>obtain⟨rfl,rfl⟩:=R j;exact ai6 (f:=f) U p hs hb hv T
    ·cases j
 case store t ad x=>
  split at j
  ·cases j
  next hs=>obtain⟨rfl,rfl⟩:=R j;exact GK (f:=f) U p hs hv T
 case nilCheck x=>obtain⟨rfl,rfl⟩:=R j;exact ZO (f:=f) U p hv T
 case binOp op t x y ty=>
  have eq:∀{neg:Bool},o.op = .binOp (pG neg) t x y ty→(∀k,P.underlying t≠some (.int k))→P.underlying t≠some .string→(match Ib P t (isC x||isC y)with|some q=>some (K.eql neg q,[x,y])|none=>none)=some (k,xs)→OkX P B J φ h w o a out wr:=λ{neg} ho h1 h2 j=>by
   split at j
   next q hq0=>obtain⟨rfl,rfl⟩:=R j;exact amD (f:=f) U ho h1 h2 hq0 hv T
   ·cases j
  split at j
  ·split at j
   ·obtain⟨rfl,rfl⟩:=R j;exact GM (f:=f) U p hv T
   ·obtain⟨rfl,rfl⟩:=R j;exact GM (f:=f) U p hv T
   next h1 h2=>exact eq (neg:=false) p (λk e=>h1 k e) h2 j
  ·split at j
   ·obtain⟨rfl,rfl⟩:=R j;exact GM (f:=f) U p hv T
   ·obtain⟨rfl,rfl⟩:=R j;exact GM (f:=f) U p hv T
   next h1 h2=>exact eq (neg:=true) p (λk e=>h1 k e) h2 j
  ·obtain⟨rfl,rfl⟩:=R j;exact GM (f:=f) U p hv T
 case unOp op t x=>obtain⟨rfl,rfl⟩:=R j;exact aoq (f:=f) U p hv T
 case convert s t x=>
  split at j
  next hs ht=>obtain⟨rfl,rfl⟩:=R j;exact ajg (f:=f) U p hs ht hv T
  next hs ht=>obtain⟨rfl,rfl⟩:=R j;exact amA (f:=f) U p hs ht hv T
  next hs ht=>obtain⟨rfl,rfl⟩:=R j;exact aiX (f:=f) U p hs ht hv T
  next e hs ht=>
   split at j
   ·cases j
   next hz=>obtain⟨rfl,rfl⟩:=R j;exact amp (fr:=f) U p hs ht hz hv T
  next u hs ht=>
   split at j
   ·cases j
   next hz=>obtain⟨rfl,rfl⟩:=R j;exact amn (fr:=f) U p hs ht hz hv T
  next e hs ht=>
   split at j
   next he=>rw[β rfl]at j;obtain⟨rfl,rfl⟩:=R j;exact amG (f:=f) U p hs ht he hv T
   ·rw[ο Ϛ]at j;cases j
  ·cases j
 case makeInterface t x=>
  split at j
  ·cases j
  next d hn hd=>obtain⟨rfl,rfl⟩:=R j;exact amv (f:=f) U p hd (λm e=>hn m e) (hf rfl) hv T
  ·cases j
 case makeFunc fn first caps=>obtain⟨rfl,rfl⟩:=R j;exact amw (f:=f) U p (hf rfl) hv T
 case makeMap t r=>
  split at j
  next k e hu=>obtain⟨rfl,rfl⟩:=R j;exact amu (f:=f) U p hu (hf rfl) hv T
  ·cases j
 case makeSlice t l c=>
  split at j
  next e hu=>
   split at j
   ·rename_i z hz;split at j
    ·cases j
    next hn=>simp[arT]at hn;obtain⟨rfl,rfl⟩:=R j;exact amt (f:=f) U p hu hz hn.2 hn.1 (hf rfl) hv T
   ·cases j
  ·cases j
 case slice t x lo hi mx=>
  split at j
  next hu=>
   split at j
   ·cases j
   next hm=>have:=Ry hm;subst this;obtain⟨rfl,rfl⟩:=R j;exact aiU (f:=f) U p hu hv T
  next e hu=>
   split at j
   ·cases j
   next hz=>obtain⟨rfl,rfl⟩:=R j;exact aiV (f:=f) U p hu hz (hf rfl) hv T
  next n e hu=>
   split at j
   ·cases j
   next hz=>obtain⟨rfl,rfl⟩:=R j;exact aiW (f:=f) U p hu hz hv T
  ·cases j
 case fieldAddr s x n=>
  split at j
  next fs hu=>
   split at j
   ·rename_i fd hn;split at j
    ·cases j
    next hz=>obtain⟨rfl,rfl⟩:=R j;exact ajf (f:=f) U p hu hn hz hv T
   ·cases j
  ·cases j
 case field s x n=>
  split at j
  next fs hu=>
   split at j
   ·rename_i fd hn;split at j
    ·cases j
    ·rename_i hz;split at j
     next b hb=>obtain⟨rfl,rfl⟩:=R j;exact amB (f:=f) U p hu hn hz hb hv T
     ·cases j
   ·cases j
  ·cases j
 case indexAddr t x i=>
  split at j
  next e hu=>
   split at j
   ·cases j
   next hz=>obtain⟨rfl,rfl⟩:=R j;exact ajc (f:=f) U p hu hz hv T
  next n e hu=>
   split at j
   ·cases j
   next hz=>obtain⟨rfl,rfl⟩:=R j;exact aje (f:=f) U p hu hz hv T
  ·cases j
 case index t x i=>
  split at j
  next hu=>obtain⟨rfl,rfl⟩:=R j;exact ajb (f:=f) U p hu hv T
  next n e hu=>
   split at j
   ·cases j
   ·rename_i hz;split at j
    next b hb=>obtain⟨rfl,rfl⟩:=R j;exact ajd (f:=f) U p hu hz hb hv T
    ·cases j
  ·cases j
 case lookup t x i ok=>
  split at j
  next kt e hu=>
   split at j
   next q z hk hz=>obtain⟨rfl,rfl⟩:=R j;exact ai5 (f:=f) U p hu hk hz hv T
   ·cases j
  ·cases j
 case mapUpdate t m kk x=>
  split at j
  next kt e hu=>
   split at j
   next q hk=>obtain⟨rfl,rfl⟩:=R j;exact adv (f:=f) U (.inl p) hu hk hv T
   ·cases j
  ·cases j
 case mapEntry t m kk=>
  split at j
  next kt e hu=>
   split at j
   next q z hk hz=>obtain⟨rfl,rfl⟩:=R j;exact ai3 (f:=f) U p hu hk hz hv T
   ·cases j
  ·cases j
 case entryStore t m s x=>obtain⟨rfl,rfl⟩:=R j;exact ai2 (f:=f) U p hv T
 case range t x=>
  split at j
  next k e hu=>obtain⟨rfl,rfl⟩:=R j;exact aiY (f:=f) U p hu (hf rfl) hv T
  ·cases j
 case entry it=>obtain⟨rfl,rfl⟩:=R j;exact amE (f:=f) U p hv T
 case extract x i=>obtain⟨rfl,rfl⟩:=R j;exact amC (f:=f) U p hv T
 case call c=>
  split at j
  next b hcl=>exact UT (f:=f) U p hcl j hf hv T
  next fi hcl=>
   split at j
   ·rename_i fn hfn;split at j
    ·cases j
    ·rename_i hb;split at j
     next k' hk=>obtain⟨rfl,rfl⟩:=R j;exact QY (f:=f) U p hcl hfn hb hk hf hv T
     ·cases j
   ·cases j
  ·cases j
end
