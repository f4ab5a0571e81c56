/- Closed runs. -/
import Derived.Test.YtfgpipfjalmooaaGreatCloQ
import Derived.Lib.MakeNoZero
import Derived.Lib.UnsafeStr
import Derived.Laws.Externs
import Derived.Lib.Bytealg
import Derived.KernelRfl
import Derived.RangeFuncCalls
import Derived.RangeFuncLeaves
import Derived.OrdersIn
import Derived.LoopNIn
import Derived.LoopN
import Derived.RangeFuncIn
import Derived.RangeFuncRecord
set_option linter.all false
namespace Go.Proofs.YtfgpipfjalmooaaGreat
namespace Clo
open Go Go.RowKit
variable [SymVal]
section
variable {P:Program}{B:Nat}{T:W0}{φ:Gx}{h:Pos→EO}{w:World}{o:Oper}{a:Act}
def G6 {s:Nat}:∀{g:List Nat} {J:List TV} {i:Nat} {l:List (List CV)} {f:List Value},P9 s i g J=some l→RTs φ J f→g=List.range' i f.length∧l.length=f.length∧(∀v∈f,v.cells.size=s)∧dens φ l.flatten=some (f.map λv=>v.cells.toList).flatten∧∀a∈l,a.length=s
 |[],[],i,l,f,h,hr=>by cases h;rw[hr.nil];exact⟨rfl,rfl,(λv hv=>by cases hv),rfl,λa ha=>by cases ha⟩
 |j::js,.pv p::J,i,l,f,h,hr=>by
  obtain⟨v,ws,rfl,h1,h2⟩:=hr.cons;simp[P9]at h;cases r:(Nat.beq i j&&Nat.beq p.cells.length s)with
  |false=>rw[r]at h;cases h
  |true=>
   rw[r,I']at h;simp at r;obtain⟨rfl,c2⟩:=r;split at h
   ·rename_i l' hl;cases h;obtain⟨q1,q2,q3,U,T⟩:=G6 hl h2;have R:=db (φ:=φ) (p:=p) (v:=v) h1;refine⟨by rw[q1,s_,W_],by simp[q2],λu C=>?_, ?_,λb P=>?_⟩
    ·obtain rfl|C:=P'.1 C
     ·rw[←Array.length_toList,bc R,c2]
     ·exact q3 u C
    ·rw[J_,a?,J_];exact ct R U
    ·obtain rfl|P:=P'.1 P
     ·exact c2
     ·exact T b P
   ·cases h
 |[],_::_,_,_,_,h,_=>by simp[P9]at h
 |_::_,[],_,_,_,h,_=>by simp[P9]at h
 |_::_,.unk::_,_,_,_,h,_=>by simp[P9]at h
 |_::_,.tup _::_,_,_,_,h,_=>by simp[P9]at h
def I7 (f:Operand→Value):∀(l:List (Nat×Operand)) (i:Nat),l.map (·.1)=List.range' i (l.map λp=>f p.2).length→l.map (λp=>(p.1,f p.2))=(List.range' i (l.map λp=>f p.2).length).zip (l.map λp=>f p.2)
 |[],i,_=>rfl
 |p::l,i,h=>by simp only[a?,s_,W_,c_]at h;simp only[a?,s_,W_,ajK,c_,ο,N_];exact⟨h.1,I7 f l (i+1) h.2⟩
variable{f:Pos}{J:List TV}{out:TV}{wr:Option (Pos×EO)}
def aax {b N s n:Nat}{cap:Option Nat}(g:BR cap n N 0=true):RT (φ.add f ⟨b,N,s⟩) (.pv (.one (.sl f 0 0 n cap))) (.slice (some ⟨b,0,none⟩) n (iY cap N 0)):=by show den _ (.sl f 0 0 n cap)=_;simp[den,Gx.add_self,g]
def ahl (hI:Inv B T φ h w){t e:TypeId}{len:Nat}{parts:Array (Nat×Operand)}(ho:o.op = .buildSlice t len parts)(hu:P.underlying t=some (.slice e)){z:PV}(hz:eC P e=some z)(hzs:z.cells.length=av P e)(hs0:av P e≠0)(hf:h f = .none)(hv:RTs φ J ((parts.toList.map (·.2)).map a.eval))
  (hq:(afz e (av P e) len z.cells (parts.toList.map (·.1)) J f).run h=some (out,wr)):OkX P B T φ h w o a out wr:=by
 unfold afz at hq;split at hq
 next l hl=>
  cases hc:(Nat.ble l.length len&&Nat.ble (len*av P e) 16777216)with
  |false=>rw[hc]at hq;cases hq
  |true=>
   rw[hc,I']at hq;simp[bp]at hc;obtain⟨c1,c2⟩:=hc;cases hq;have hv':RTs φ J (parts.toList.map λp=>a.eval p.2):=by simpa[r?,Function.comp_def]using hv
   obtain⟨q1,q2,q3,q4,q5⟩:=G6 hl hv';obtain⟨i,zv,h1,h2,h3⟩:=gM hz;have hzd:=db (h3 φ);have C:zv.cells.size=av P e:=by rw[←Array.length_toList,bc hzd,hzs]
   have hzl:zv.cells.toList.length=av P e:=by rw[ω];exact C
   have his:i.size=av P e:=by simp[av,h1]
   have hzf:=EY zv.cells len Ω;have hzz:((Array.range (len*zv.cells.size)).map (zv.cells[· % zv.cells.size]!)).size=len*av P e:=by simp[C]
   obtain⟨r,e1,e2⟩:=vj (av P e) (parts.toList.map λp=>a.eval p.2) 0 ((Array.range (len*zv.cells.size)).map (zv.cells[· % zv.cells.size]!)) q3 (by rw[hzz,Q',←q2];exact l_ _ c1);rw[←I7 a.eval parts.toList 0 q1]at e1;rw[hzf,ajS,H?,n_,Q',←q2,Rc hzl _ _ c1]at e2;have U:∀b∈l++List.replicate (len-l.length) z.cells,b.length=av P e:=λb hb=>by
    obtain hb|hb:=π.1 hb
    ·exact q5 b hb
    ·rw[akr hb,hzs]
   have hd:dens φ (l++List.replicate (len-l.length) z.cells).flatten=some r.toList:=by rw[List.flatten_append,e2];exact ct q4 (HR hzd _)
   have hll:(l++List.replicate (len-l.length) z.cells).length=len:=by simp;omega
   have hsz:r.size=len*av P e:=by rw[←Array.length_toList,bc hd,iS U,hll]
   have hlen:len≤16777216:=Δ (Nat.le_mul_of_pos_right len Ω) c2;obtain⟨p1,p2⟩:=hI.newR hf (e:=e) (s:=av P e) (N:=len) (l:=l++List.replicate (len-l.length) z.cells) (vs:=r.toList) (arr:=r) (fr:=(0,0)) (fz :=.no) Ω U hd (λj u hu=>by simpa using hu) hsz Ω Ω rfl;rw[hll]at p2;refine i3 (v :=.slice (some ⟨w.heap.size,0,none⟩) len len) ?_ p1 p2 (aax (cap:=some len) rfl);have hne:len*av P e=0∨len*av P e≠0:=Ω
   have hbig:¬len*i.size>2^24:=by rw[his];omega
   have g:(parts.map λp=>(p.1,a.eval p.2)).toList=parts.toList.map λp=>(p.1,a.eval p.2):=by simp
   unfold execOp;by_cases h0:len*av P e=0
   ·have R:((Array.range (len*av P e)).map ((#[]:Array Value)[· % (#[]:Array Value).size]!))=((Array.range (len*zv.cells.size)).map (zv.cells[· % zv.cells.size]!)):=by
     rw[C,h0];exact Array.ext Ψ λj hj _=>by simp at hj
    simp only[ho,Instr.buildSlice,ν,η hu,χ,aK hs0];rw[B' Ω];simp only[h0,i?,ν,j_,χ];rw[h0]at R;rw[R,g,e1];simp[Go.newRow]
   ·simp only[ho,Instr.buildSlice,ν,η hu,χ,aK hs0];rw[B' Ω];have hzr:(zeroValue e).run P w = .ok zv w:=by simp[zeroValue,typeInfo,h1,h2]
    simp only[h0,akE,ν,j_,χ,hzr];rw[C]at e1;rw[C,g,e1];simp[Go.newRow]
 ·cases hq
def ahi (hI:Inv B T φ h w){t e:TypeId}{x y:Operand}(ho:o.op = .makeSlice t x y)(hu:P.underlying t=some (.slice e)){z:PV}(hz:eC P e=some z)(p:z.cells.length=av P e)(hs0:av P e≠0)(hf:h f = .none)(hv:RTs φ J [a.eval x,a.eval y])
  (g:(afw e (av P e) (xy P e) z.cells J f).run h=some (out,wr)):OkX P B T φ h w o a out wr:=by
 unfold afw at g;split at g
 ·obtain⟨v1,ws,e1,hr1,hr2⟩:=hv.cons;obtain⟨v2,e2,hr3⟩:=hr2.one;subst e2;simp at e1;obtain⟨e1,e2⟩:=e1;subst e1;subst e2;split at g
  next k1 n k2 c=>
   cases U:(Nat.ble n c&&Nat.ble c 16777216&&Nat.ble (c*xy P e) 16777216)with
   |false=>rw[U]at g;cases g
   |true=>
    rw[U,I']at g;simp[bp]at U;obtain⟨⟨c1,c2⟩,c3⟩:=U;cases g;obtain⟨i,zv,h1,h2,h3⟩:=gM hz;have r:=db (h3 φ);have hzv:zv.cells.size=av P e:=by rw[←Array.length_toList,bc r,p]
    have C:i.size=av P e:=by simp[av,h1]
    have hib:i.bytes=xy P e:=by simp[xy,h1]
    have hzf:=EY zv.cells c Ω;have hd:=HR r c;have R:∀b∈List.replicate c z.cells,b.length=av P e:=λb hb=>by rw[akr hb,p]
    obtain⟨p1,p2⟩:=hI.newR hf (e:=e) (s:=av P e) (N:=c) (l:=List.replicate c z.cells) (vs:=(List.replicate c zv.cells.toList).flatten) (arr:=madeCells zv.cells (c*i.size)) (fr:=(0,0)) (fz :=.no) Ω R hd (λj u hu=>by
     rw[C,←hzv,←Array.getElem?_toList,madeCells,hzf];exact hu) (by rw[size_madeCells,C]) Ψ Ξ rfl
    rw[List.length_replicate]at p2;refine i3 (v :=.slice (some ⟨w.heap.size,0,none⟩) n c) ?_ p1 p2 (aax (cap:=some c) rfl);have hx:a.eval x = .int k1 (n:Int):=dL hr1;have hy:a.eval y = .int k2 (c:Int):=dL hr3;have hb':(i.bytes:Int)*(c:Int)≤281474976710656:=by
     have h:((c*xy P e:Nat):Int)≤16777216:=Ω
     rw[Int.natCast_mul,Int.mul_comm]at h;rw[hib];omega
    have:=run_make (P:=P) w t e i zv hu h1 h2 k1 k2 n c Ω Ω hb' Ω;unfold execOp;simp[ho,hx,hy,ν,this,j_]
  ·cases g
 ·cases g
end
variable [SymVal]
section
variable {P:Program}{B:Nat}{T:W0}{φ:Gx}{h:Pos→EO}{w:World}{o:Oper}{a:Act}
def ahW:(Extern.allGenericRows.lookup "internal/abi.NoEscape").isNone=true:=Φ
def ahV:(Extern.allTypedRows.lookup "internal/abi.NoEscape").isNone=true:=Φ
def ahU:Extern.allRows.lookup "internal/abi.NoEscape" = some Extern.AbiNoEscape.same:=Φ
variable{fn:Func}{cl:Call}{f:FuncId}{J:List TV}{fr k:Pos}{out:TV}{wr:Option (Pos×EO)}{x:Operand}{e:TypeId}{arr:Array Value}{s g:Nat}{el:PT Ch}{fz:Fz}{l:Loc}
def IS (h:fn.name = "internal/abi.NoEscape"):Extern.find fn=some Extern.AbiNoEscape.same:=by simp only[Extern.find,h,Z?.1 ahW,Z?.1 ahV,ahU];rfl
def ahT:(Extern.allGenericRows.lookup "internal/bytealg.IndexByteString").isNone=true:=Φ
def ahS:(Extern.allTypedRows.lookup "internal/bytealg.IndexByteString").isNone=true:=Φ
def ahR:Extern.allRows.lookup "internal/bytealg.IndexByteString" = some Extern.BytealgIndexByte.indexByte:=Φ
def HA (h:fn.name = "internal/bytealg.IndexByteString"):Extern.find fn=some Extern.BytealgIndexByte.indexByte:=by simp only[Extern.find,h,Z?.1 ahT,Z?.1 ahS,ahR];rfl
def QU {e:Array Value→Sem Value}(ho:o.op = .call cl)(hcl:cl.callee = .value (.func f))(hf:P.funcs[f]? = some fn)(hb:fn.body=none)(hname:fn.name ≠ "runtime.NumGoroutine")(hn:Extern.findNext fn=none)(he:Extern.find fn=some e){v:Value}{w':World}(hr:(e (cl.args.map a.eval)).run P w = .ok v w'):(execOp a.eval o).run P w = .ok (.value v) w':=by have hc:=run_callFunc_extern (P:=P) hf (by simpa using hname) (by simp[hb]) hn he (cl.args.map a.eval) w;unfold execOp;simp[ho,resolve,hcl,Act.eval,Deferred.ofValue,invoke,hc,hr]
def Pw (hI:Inv B T φ h w)(ho:o.op = .call cl)(hcl:cl.callee = .value (.func f))(hf:P.funcs[f]? = some fn)(hb:fn.body=none)(hn:Extern.findNext fn=none)(he:fn.name = "internal/abi.NoEscape")(hv:RTs φ J (cl.args.toList.map a.eval))(hq:(UB J fr).run h=some (out,wr)):OkX P B T φ h w o a out wr:=by
 unfold UB at hq;split at hq
 ·cases hq;obtain⟨v,e1,hr⟩:=hv.one;have e2:cl.args.map a.eval = #[v]:=by
   apply B_;rw[ak5,e1]
  exact ay hI (QU ho hcl hf hb (by rw[he];decide) hn (IS he) (by rw[e2];rfl)) hr
 ·cases hq
def Kt (c:Nat)(r:c<256):∀(l:List Nat) (i:Nat),okStr l=true→abR c l i=if Lib.indexByte (l.map UInt8.ofNat) (UInt8.ofNat c) = -1 then -1 else Lib.indexByte (l.map UInt8.ofNat) (UInt8.ofNat c)+(i:Int)
 |[],i,_=>rfl
 |b::l,i,h=>by
  obtain⟨P,J⟩:=gI h;simp only[abR,a?,Lib.indexByte];cases C:Nat.beq b c with
  |true =>rw[ry.1 C];simp
  |false=>
   have j:(UInt8.ofNat b == UInt8.ofNat c)=false:=by have:=E_ C;rw[F?];exact λe=>this (Cx P r e)
   rw[j,H_,Kt c r l (i+1) J];have p:=Lib.indexByte_ge (l.map UInt8.ofNat) (UInt8.ofNat c);generalize Lib.indexByte (l.map UInt8.ofNat) (UInt8.ofNat c)=x at p⊢;by_cases g:x = -1
   ·subst g;rfl
   ·have f:(x == -1)=false:=by rw[F?];exact g
    simp[g,f];rw[B' Ω];omega
def ahn (hI:Inv B T φ h w)(ho:o.op = .call cl)(hcl:cl.callee = .value (.func f))(hf:P.funcs[f]? = some fn)(hb:fn.body=none)(hn:Extern.findNext fn=none)(he:fn.name = "internal/bytealg.IndexByteString")(hv:RTs φ J (cl.args.toList.map a.eval))(hq:(acw J fr).run h=some (out,wr)):OkX P B T φ h w o a out wr:=by
 unfold acw at hq;split at hq
 ·obtain⟨v1,ws,e1,hr1,hr2⟩:=hv.cons;obtain⟨v2,e2,hr3⟩:=hr2.one;subst e2;split at hq
  next b c=>
   cases hc:Nat.blt c 256 with
   |false=>rw[hc]at hq;cases hq
   |true=>
    rw[hc,I',cR]at hq;have hc:=cx.1 hc;cases hq;obtain⟨h1,h2⟩:=pH hr1;have h3:v2 = .int .u8 (c:Int):=dL hr3;have e2:cl.args.map a.eval = #[v1,v2]:=by apply B_;rw[ak5,e1]
    refine ay hI (v :=.int .i64 (abR c b 0)) (QU ho hcl hf hb (by rw[he];decide) hn (HA he) ?_) (dv _ _);rw[e2,h2,h3];unfold strV;rw[Lib.run_indexByteString];have hs:=Kt c hc b 0 h1;have hcc:((c:Int).toNat).toUInt8=UInt8.ofNat c:=rfl;rw[hs,hcc];by_cases hx:Lib.indexByte (b.map UInt8.ofNat) (UInt8.ofNat c) = -1
    ·rw[q' hx,hx]
    ·rw[B' hx];simp
  ·cases hq
 ·cases hq
def ahb (hI:Inv B T φ h w)(ho:o.op = .call cl)(C:cl.callee = .builtin .unsafeSliceData)(l:cl.args = #[x])(hv:RTs φ J [a.eval x])(f:(acv J fr).run h=some (out,wr)):OkX P B T φ h w o a out wr:=by
 have hex:∀{v w'},(Builtin.unsafeSliceData_ cl.argTypes o.type #[a.eval x]).run P w = .ok v w'→(execOp a.eval o).run P w = .ok (.value v) w':=λp=>by unfold execOp;simp[ho,resolve,C,l,invoke,builtin,p]
 unfold acv at f;split at f
 ·obtain⟨v,e,p⟩:=hv.one;cases e;split at f
  ·cases f;exact ay hI (v :=.pointer none) (hex (by rw[gp p];rfl)) rfl
  next k g j n cap=>
   obtain⟨r,hl,ev,R⟩:=LQ p;have hc:iY cap r.n (j/r.s)≠0∧out = .pv (.one (.ptr k g j))∧wr=none:=by
    cases cap with
    |some c=>
     simp only at f;cases U:Nat.blt 0 c with
     |false=>rw[U]at f;cases f
     |true =>rw[U]at f;simp[sk,Q.run]at f;have:=cx.1 U;exact⟨by simp[iY];omega,f.1.symm,f.2.symm⟩
    |none =>simp[sk,Q.run]at f;have:=bp.1 R;exact⟨by simp[iY];omega,f.1.symm,f.2.symm⟩
   obtain⟨h1,rfl,rfl⟩:=hc;refine ay hI (v :=.pointer (some ⟨r.b,j,none⟩)) (hex ?_) ?_
   ·rw[ev];exact Lib.run_unsafeSliceData_row w _ _ _ _ _ h1
   ·show den φ (.ptr k g j)=_;simp[den,hl]
  ·cases f
 ·cases f
def SP {fits:TypeId→Bool}:∀(d:Nat) (e:TypeId) {c g:Nat} (f n:Nat),c≤g→rowAt P fits d e c f n=true→rowAt P fits d e g f n=true
 |0,_,_,_,_,_,_,h=>by simp[rowAt]at h
 |d+1,e,c,g,f,n,hc,h=>by
  unfold rowAt at h⊢;by_cases p:P.cellsOf e=0
  ·simp[p]at h
  ·simp only[p,akE]at h⊢;simp at h⊢;rcases h with⟨⟨l,j⟩,h3⟩|⟨l,j⟩
   ·exact .inl ⟨⟨l,Ω⟩,h3⟩
   ·exact .inr ⟨Ω,j⟩
def DI:∀(d:Nat) (e:TypeId) {c g:Nat} (f:Nat) (u:TypeId) (n:Nat),c≤g→liesAt P d e c f u n=true→liesAt P d e g f u n=true
 |0,_,_,_,_,_,_,_,h=>by simp[liesAt]at h
 |d+1,e,c,g,f,u,n,hc,h=>by
  unfold liesAt at h⊢;simp at h⊢;obtain h|h:=h
  ·exact .inl (SP _ e f n hc h)
  ·right;cases j:P.underlying u with
   |none=>rw[j]at h;exact h
   |some l=>
    rw[j]at h;cases l <;> first|exact h|exact DI d e f _ _ hc h
def XO {b:Nat}{fr:Nat×Nat}(f:w.heap[b]? = some (.cells arr e fr)):(shape b).run P w = .ok (some (e,arr.size)) w:=by simp[shape,Sem.run,World.shape?,f]
def FM {a:Addr}{fr:Nat×Nat}(f:w.heap[a.block]? = some (.cells arr e fr)):(Conv.seenAt a).run P w = .ok a w:=by simp[Conv.seenAt,viewAt,XO f]
def Er (U:Inv B T φ h w){len f:Nat}(R:h k = .row e s el len f fz)(j:φ.loc k g=some l):∃arr fr,w.heap[l.b]? = some (.cells arr e fr)∧arr.size=l.n*s∧(g=f→len≤l.n)∧l.s=s∧0<s:=by
 have p:=U.obj k;rw[R]at p;obtain⟨h0,_,_,h2,h3⟩:=p;obtain hg|hg:=Z' f g
 ·rw[h2 g hg]at j;cases j
 ·obtain⟨l',q1,⟨q2,P,arr,fr,J,C,q6,q7⟩,r⟩:=h3 g hg;rw[q1]at j;cases j;exact⟨arr,fr,J,C,r,P,h0⟩
def VR:RT φ (.pv (.one .nilp)) (.pointer none):=rfl
def ahf (C:Inv B T φ h w){s t:TypeId}(ho:o.op = .convert s t x)(hs:P.underlying s=some (.pointer e))(ht:P.underlying t=some .unsafePointer)(hz:av P e≠0)(hv:RTs φ J [a.eval x])(f:(afv J fr).run h=some (out,wr)):OkX P B T φ h w o a out wr:=by
 have hex:∀{v w'},(Conv.unsafePointer s t (a.eval x)).run P w = .ok v w'→(execOp a.eval o).run P w = .ok (.value v) w':=λr=>by unfold execOp;simp[ho,convert,η hs,η ht,r]
 unfold afv at f;split at f
 ·obtain⟨v,e1,r⟩:=hv.one;cases e1;split at f
  next k g j=>
   simp[Q.run]at f;split at f
   ·rename_i cs hcs;cases f;obtain⟨l,hl,ev⟩:=iB r;refine ay C (v :=.pointer (some ⟨l.b,j,none⟩)) (hex ?_) (by rw[←ev];exact r);obtain⟨U,q1,q2,q3,e',len,gen,fz,s',el,hk,_,_⟩:=C.rd hcs hl;have hvl:U.length=1:=by rw[bc q1,q2]
    obtain⟨u,rfl⟩:∃u,U=[u]:=by
     match U,hvl with
     |[u],_=>exact⟨u,rfl⟩
    have hc:=q3 0 u rfl;rw[pX,akg]at hc;obtain⟨arr,fr',R,z2,_⟩:=Er C hk hl;rw[akF w l.b j arr e' fr' R]at hc;have hlt:=(δ.1 hc).1;have hno:¬arr.size≤j:=Ω
    have p:=FM (P:=P) (a:=⟨l.b,j,none⟩) R;have hsh:w.shape? l.b=some (e',arr.size):=by simp[World.shape?,R]
    rw[ev];simp[Conv.unsafePointer,η hs,η ht,p,cellsIn,hsh,aK hz,hz,hno]
   ·cases f
  ·cases f;have ev:=k6 r;refine ay C (v :=.pointer none) (hex ?_) VR;rw[ev];simp[Conv.unsafePointer,η hs,η ht]
  ·cases f
 ·cases f
def ahc (hI:Inv B T φ h w){s t u:TypeId}(U:o.op = .convert s t x)(hs:P.underlying s=some .unsafePointer)(ht:P.underlying t=some (.pointer u))(p:av P u≠0)(hv:RTs φ J [a.eval x])(f:(aft (aaa P u) J fr).run h=some (out,wr)):OkX P B T φ h w o a out wr:=by
 have hex:∀{v w'},(Conv.unsafePointer s t (a.eval x)).run P w = .ok v w'→(execOp a.eval o).run P w = .ok (.value v) w':=λC=>by unfold execOp;simp[U,convert,η hs,η ht,C]
 unfold aft at f;split at f
 ·obtain⟨v,e1,C⟩:=hv.one;cases e1;split at f
  next k g j=>
   simp[Q.run]at f;split at f
   ·rename_i e s' el hk;cases hc:aaa P u e s' j with
    |false=>rw[hc]at f;cases f
    |true=>
     rw[hc,I']at f;cases f;obtain⟨l,hl,ev⟩:=iB C;refine ay hI (v :=.pointer (some ⟨l.b,j,none⟩)) (hex ?_) (by rw[←ev];exact C);obtain⟨arr,fr',z1,z2,z3,_,z5⟩:=Er hI hk hl;have hg0:g=0:=by
      have U:=hI.obj k;rw[hk]at U;obtain⟨_,_,_,h2,_⟩:=U;cases g with
      |zero=>rfl
      |succ g=>rw[h2 _ Ω]at hl;cases hl
     have hn:=z3 hg0;have hle:s'≤arr.size:=by rw[z2];exact Nat.le_mul_of_pos_left _ hn
     have R:liesAt P P.depth e (arr.size/P.cellsOf e) j u 1=true:=DI _ _ _ _ _ (Nat.div_le_div_right hle) hc;have r:=FM (P:=P) (a:=⟨l.b,j,none⟩) z1;have hsh:w.shape? l.b=some (e,arr.size):=by simp[World.shape?,z1]
     rw[ev];simp[Conv.unsafePointer,η hs,η ht,r,variablesAt,hsh,R,aK p,p]
   ·cases f
  ·cases f;have ev:=k6 C;refine ay hI (v :=.pointer none) (hex ?_) VR;rw[ev];simp[Conv.unsafePointer,η hs,η ht]
  ·cases f
 ·cases f
def Inv.frz (hI:Inv B T φ h w){len R:Nat}(hk:h k = .row e s el len R fz)(hl:φ.loc k g=some l)(p:Addr)(P:p.block=l.b)(n:Nat):Inv B T φ (upd h k (.row e s el len R .yes)) (w.freeze p n):=by
 have ho:=hI.obj k;rw[hk]at ho;obtain⟨h0,h1,hm,h2,h3⟩:=ho;obtain⟨arr0,fr0,y1,_⟩:=Er hI hk hl;have f:∀b,b≠l.b→(w.freeze p n).heap[b]? = w.heap[b]?:=λb j=>by
  unfold World.freeze;split
  ·rfl
  ·simp only[T_];rw[B' (by rw[P];exact λe=>j e.symm)]
 have r:∀arr e fr,w.heap[l.b]? = some (.cells arr e fr)→∃C,(w.freeze p n).heap[l.b]? = some (.cells arr e C):=λarr e fr j=>by
  unfold World.freeze;split
  ·exact⟨fr,j⟩
  ·simp only[T_];rw[q' P,j];exact⟨_,rfl⟩
 have hfs:(w.freeze p n).os=w.os∧(w.freeze p n).tape=w.tape∧(w.freeze p n).output=w.output∧w.heap.size≤(w.freeze p n).heap.size∧dz w≤dz (w.freeze p n):=by
  unfold World.freeze;split
  ·exact⟨rfl,rfl,rfl,ζ _,ζ _⟩
  ·exact⟨rfl,rfl,rfl,Ψ,ζ _⟩
 obtain⟨f1,f2,f3,f4,f5⟩:=hfs;refine hI.turn (ψ:=φ) (Gx.le.refl φ) (λ_ _=>⟨λ_=>rfl,rfl,rfl⟩) (λU J x=>.inl ⟨U,J,x,rfl⟩) (λb j hne=>f b λe=>hne g l hl e.symm) (λU J x ob z1 z2=>?_) f1 f2 f3 f4 f5 ⟨h0,h1,hm,h2,λU hg1=>?_⟩
 ·by_cases j:J.b=l.b
  ·rw[j,y1]at z1;cases z1;cases z2
  ·rw[f _ j];exact z1
 ·obtain⟨J,q1,⟨q2,q3,arr,fr,q4,q5,q6,q7⟩,q8⟩:=h3 U hg1;refine⟨J,q1, ?_,q8⟩;by_cases j:J.b=l.b
  ·obtain⟨C,z⟩:=r arr e fr (by rw[←j];exact q4);exact⟨q2,q3,arr,C,by rw[j];exact z,q5,aoG,q7⟩
  ·exact⟨q2,q3,arr,fr,by rw[f _ j];exact q4,q5,aoG,q7⟩
def aha (hI:Inv B T φ h w){y:Operand}{t t2:TypeId}(ho:o.op = .call cl)(hcl:cl.callee = .builtin .unsafeString)(hargs:cl.args = #[x,y])(hty:cl.argTypes = #[t,t2])(hu:P.underlying t=some (.pointer e))(hv:RTs φ J [a.eval x,a.eval y])(f:(afs e (U6 P) J fr).run h=some (out,wr)):OkX P B T φ h w o a out wr:=by
 have hex:∀{v w'},(Builtin.unsafeString_ #[t,t2] o.type #[a.eval x,a.eval y]).run P w = .ok v w'→(execOp a.eval o).run P w = .ok (.value v) w':=λhr=>by unfold execOp;simp[ho,resolve,hcl,hargs,hty,invoke,builtin,hr]
 unfold afs at f;split at f
 ·obtain⟨v1,ws,e1,hr1,hr2⟩:=hv.cons;obtain⟨v2,e2,R⟩:=hr2.one;subst e2;simp at e1;obtain⟨e1,e2⟩:=e1;subst e1;subst e2;split at f
  ·cases f;refine ay hI (v :=.string .empty) (hex ?_) (yJ rfl);rw[k6 hr1,show a.eval y = .int .i64 0 from dL R];exact Lib.run_unsafeString_none w t t2 o.type none
  next k g off n=>
   obtain⟨l,hl,ev⟩:=iB hr1;split at f
   ·cases f;refine ay hI (v :=.string .empty) (hex ?_) (yJ rfl);rw[ev,show a.eval y = .int .i64 0 from dL R];exact Lib.run_unsafeString_none w t t2 o.type _
   ·rename_i n;simp[Q.run]at f;split at f
    ·rename_i ls hls;split at f
     ·rename_i b hb;split at f
      ·rename_i e' el len gen fz hk;cases hc:(Nat.beq e e'&&Nat.beq off 0&&U6 P e' len off (n+1))with
       |false=>rw[hc]at f;cases f
       |true=>
        rw[hc,I']at f;simp at hc;obtain⟨⟨rfl,rfl⟩,c3⟩:=hc;cases f;simp[U6,bp]at c3;obtain⟨c3,c4⟩:=c3;obtain⟨q1,q2,vs,q3,q4⟩:=hI.rds hl hls;obtain⟨p1,p2⟩:=vz hb q3;obtain⟨arr,fr',z1,z2,z3,_,_⟩:=Er hI hk hl;have hsh:w.shape? l.b=some (e,arr.size):=by simp[World.shape?,z1]
        have p:b.length=n+1:=by
         have:vs.length=(n+1)*1:=by rw[bc q3,iS q2,q1]
         rw[p2]at this;simpa using this
        have r:∀(j:Nat) (x:UInt8),(b.map UInt8.ofNat)[j]? = some x→w.cell? ((⟨l.b,0,none⟩:Addr).add j)=some (.int .u8 x.toNat):=λj x hj=>by
         rw[v_]at hj;simp at hj;obtain⟨c,hc,rfl⟩:=hj;have:=q4 j (.int .u8 (Int.ofNat c)) (by rw[p2,v_,hc];rfl);rw[this];have hcm:c<256:=by have:=G'.1 p1 c (X_ hc);exact cx.1 this
         have:(UInt8.ofNat c).toNat=c:=by simp;omega
         rw[this];rfl
        have hfit:n+1≤arr.size:=by
         have U:∃x,(b.map UInt8.ofNat)[n]? = some x:=by rw[v_];exact⟨UInt8.ofNat b[n],by rw[ε Ω];rfl⟩
         obtain⟨x,hx⟩:=U;have:=r n x hx;rw[pX,Q',akF w l.b n arr e fr' z1]at this;have:=(δ.1 this).1;omega
        have hl32:len+2≤2^32:=by have ho:=hI.obj k;rw[hk]at ho;exact ho.2.1
        have C:=Lib.run_unsafeString_row (P:=P) w t t2 o.type e hu c3 l.b arr.size hsh (b.map UInt8.ofNat) (by intro e0;rw[List.map_eq_nil_iff]at e0;rw[e0]at p;simp at p) (by simpa[p]using hfit) (by simp[p];omega) r;refine i3 (v:=strV b) (hex ?_) (Gx.le.refl φ) (hI.frz hk hl ⟨l.b,0,none⟩ rfl (b.map UInt8.ofNat).length) (yJ p1);rw[ev,show a.eval y = .int .i64 ((n+1:Nat):Int) from dL R];rw[b_,p]at C;rw[b_,p];exact C
      ·cases f
     ·cases f
    ·cases f
  ·cases f
 ·cases f
end
variable [SymVal]
section
variable {P:Program}{B:Nat}{T:W0}{φ:Gx}{h:Pos→EO}{w:World}{o:Oper}{a:Act}
variable{J:List TV}{f:Pos}{out:TV}{wr:Option (Pos×EO)}{α:Type}{cl:Call}{k:K}{xs:List Operand}
def GC (r:Inv B T φ h w){op:BinOp}{t ty:TypeId}{x y:Operand}(p:o.op = .binOp op t x y ty)(hv:RTs φ J [a.eval x,a.eval y])(g:(tQ op J f).run h=some (out,wr)):OkX P B T φ h w o a out wr:=by
 unfold tQ at g;split at g
 ·obtain⟨v1,ws,C,l,R⟩:=hv.cons;obtain⟨v2,e2,j⟩:=R.one;subst e2;simp at C;obtain⟨C,e2⟩:=C;subst C;subst e2;split at g
  ·split at g
   ·rename_i k m k' n;have h1:=dL l;have h2:=dL j;split at g
    ·exact aa8 r p h1 h2 g
    ·exact aa8 r p h1 h2 g
    ·cases U:kq k k' with
     |false=>rw[U]at g;cases g
     |true =>rw[U,I']at g;have:=Kg U;subst this;exact aeQ r p h1 h2 g
   ·obtain⟨q1,q2⟩:=pH l;obtain⟨q3,q4⟩:=pH j;exact aeP r p q1 q3 q2 q4 g
   ·cases g
  ·cases g
 ·cases g
def Mp (p:Inv B T φ h w){v:Value}(l:(execOp a.eval o).run P w = .ok (.value v) w)(j:RTs φ J [v])(g:(UB J f).run h=some (out,wr)):OkX P B T φ h w o a out wr:=by
 unfold UB at g;split at g
 ·cases g;obtain⟨u,e,r⟩:=j.one;cases e;exact ay p l r
 ·cases g
def pq {l:Array α}{x y:α}(h:l.toList=[x,y]):l = #[x,y]:=B_ h
def Np {l:Array α}{x:α}(h:l.toList=[x]):l = #[x]:=B_ h
def Tq (U:Inv B T φ h w){b:Builtin}(R:o.op = .call cl)(l:cl.callee = .builtin b)(g:Id P cl b=some (k,xs))(hf:kAl k=true→h f = .none)(r:RTs φ J (xs.map a.eval))(C:(dX k J f).run h=some (out,wr)):OkX P B T φ h w o a out wr:=by
 unfold Id at g;split at g
 next x t j p=>
  have j:=Np j;have p:=Np p;split at g
  next hu=>cases g;exact aeG (f:=f) U R l j p hu r C
  next hu=>cases g;exact aeI (f:=f) U R l j p hu r C
  next hu=>cases g;exact aeH (f:=f) U R l j p hu r C
  ·cases g
 next s x t u j p=>
  have j:=pq j;have p:=pq p;split at g
  next e hu=>
   split at g
   ·rename_i z hz;split at g
    ·cases g
    ·rename_i hn;simp[akZ]at hn;split at g
     next e2 hu2=>cases g;exact abc (f:=f) U R l j p hu hz hn.2 hn.1 (.inl ⟨rfl,e2,hu2⟩) (hf rfl) r C
     ·rename_i hu2;split at g
      next hs=>cases g;exact abc (f:=f) U R l j p hu hz hn.2 hn.1 (.inr ⟨rfl,hu2,hs⟩) (hf rfl) r C
      ·cases g
     ·cases g
   ·cases g
  ·cases g
 next x j=>have j:=Np j;cases g;exact ahb (fr:=f) U R l j r C
 next x y t t2 j p=>
  have j:=pq j;have p:=pq p;split at g
  next e hu=>
   split at g
   ·cases g;exact aha (fr:=f) U R l j p hu r C
   ·cases g
  ·cases g
 next x y t t2 j p=>
  have j:=pq j;have p:=pq p;split at g
  next kt e hu=>
   split at g
   next q hkey=>cases g;exact ahs (f:=f) U R l j p hu hkey r C
   ·cases g
  ·cases g
 next x y j=>have j:=pq j;cases g;exact agt (big:=true) (f:=f) U R l j r C
 next x y j=>have j:=pq j;cases g;exact agt (big:=false) (f:=f) U R l j r C
 ·cases g
def PA (hI:Inv B T φ h w){fi:FuncId}{fn:Func}(R:o.op = .call cl)(l:cl.callee = .value (.func fi))(j:P.funcs[fi]? = some fn)(U:fn.body=none)(g:aik fn P=some k)(hf:kAl k=true→h f = .none)(r:RTs φ J (cl.args.toList.map a.eval))(C:(dX k J f).run h=some (out,wr)):OkX P B T φ h w o a out wr:=by
 unfold aik at g;split at g
 ·cases g
 next p=>
  have p:Extern.findNext fn=none:=by simpa using p
  split at g
  next he=>cases g;exact Pw (fr:=f) hI R l j U p he r C
  ·split at g
   next he=>cases g;exact ahn (fr:=f) hI R l j U p he r C
   ·cases g
def Qo {o:Option α}(h:¬o.isSome=true):o=none:=by cases o <;> simp_all
def adg {Gl:Glt}(hG:tG Gl P B T)(U:Inv B T φ h w)(j:cK P Gl o.op=some (k,xs))(hf:kAl k=true→h f = .none)(hv:RTs φ J (xs.map a.eval))(R:(dX k J f).run h=some (out,wr)):OkX P B T φ h w o a out wr:=by
 have C:∀{k':K} {xs':List Operand},some (k',xs')=some (k,xs)→k'=k∧xs'=xs:=λh=>by simp at h;exact h
 cases p:o.op <;> rw[p]at j <;> simp only[cK]at j <;> first|(cases j;done)|skip
 case move x=>obtain⟨rfl,rfl⟩:=C j;exact Mp (f:=f) U (by unfold execOp;simp[p]) hv R
 case assign x=>obtain⟨rfl,rfl⟩:=C j;exact Mp (f:=f) U (by unfold execOp;simp[p]) hv R
 case pick c x y=>
  obtain⟨rfl,rfl⟩:=C j;simp[dX,Wt]at R;split at R
  ·obtain⟨v1,ws,e1,hr1,hr2⟩:=hv.cons;obtain⟨v2,ws2,e2,hr3,hr4⟩:=hr2.cons;obtain⟨v3,e3,hr5⟩:=hr4.one;subst e3;subst e2;simp at e1;obtain⟨e1,e2,e3⟩:=e1;subst e1;subst e2;subst e3;split at R
   next b=>cases R;cases b <;> exact Mo (P:=P) U p hr1 hr3 hr5
   ·cases R
  ·cases R
 case alloc e=>
  split at j
  next z hz=>
   split at j
   ·cases j
   next hs=>obtain⟨rfl,rfl⟩:=C j;exact GE (f:=f) U p hz hs (hf rfl) R
  ·cases j
 case box e x=>
  split at j
  ·cases j
  next hs=>obtain⟨rfl,rfl⟩:=C j;exact Tr (f:=f) U p hs (hf rfl) hv R
 case build t parts=>
  split at j
  next z fs hz hu=>
   split at j
   ·rename_i ha;split at j
    next ps hp=>obtain⟨rfl,rfl⟩:=C j;exact At (f:=f) U p hz (.inl ⟨fs,hu,ha,hp⟩) hv R
    ·cases j
   ·cases j
  next z n e hz hu=>
   split at j
   ·cases j
   next hs=>obtain⟨rfl,rfl⟩:=C j;exact At (f:=f) U p hz (.inr ⟨n,e,hu,hs,rfl⟩) hv R
  ·cases j
 case buildSlice t len parts=>
  split at j
  next e hu=>
   split at j
   ·rename_i z hz;split at j
    ·cases j
    next hn=>simp[akZ]at hn;obtain⟨rfl,rfl⟩:=C j;exact ahl (f:=f) U p hu hz hn.2 hn.1 (hf rfl) hv R
   ·cases j
  ·cases j
 case load t ad=>
  split at j
  next g=>
   split at j
   next v hg=>obtain⟨rfl,rfl⟩:=C j;refine Mp (f:=f) U (v:=v) ?_ hv R;have:=hG.1 g t _ hg w U.below;unfold execOp;simp[p,Act.eval,ν,this,j_,gv]
   ·cases j
  ·split at j
   ·cases j
   ·rename_i hs;split at j
    next b hb=>obtain⟨rfl,rfl⟩:=C j;exact aeF (f:=f) U p hs hb hv R
    ·cases j
 case store t ad x=>
  split at j
  ·cases j
  next hs=>obtain⟨rfl,rfl⟩:=C j;exact GA (f:=f) U p hs hv R
 case nilCheck x=>obtain⟨rfl,rfl⟩:=C j;exact X9 (f:=f) U p hv R
 case binOp op t x y ty=>
  have eq:∀{neg:Bool},o.op = .binOp (Bv neg) t x y ty→(∀k,P.underlying t≠some (.int k))→P.underlying t≠some .string→(match HI P t (isC x||isC y)with|some q=>some (K.eql neg q,[x,y])|none=>none)=some (k,xs)→OkX P B T φ h w o a out wr:=λ{neg} ho h1 h2 j=>by
   split at j
   next q hq0=>obtain⟨rfl,rfl⟩:=C j;exact ahq (f:=f) U ho h1 h2 hq0 hv R
   ·cases j
  split at j
  ·split at j
   ·obtain⟨rfl,rfl⟩:=C j;exact GC (f:=f) U p hv R
   ·obtain⟨rfl,rfl⟩:=C j;exact GC (f:=f) U p hv R
   next h1 h2=>exact eq (neg:=false) p (λk e=>h1 k e) h2 j
  ·split at j
   ·obtain⟨rfl,rfl⟩:=C j;exact GC (f:=f) U p hv R
   ·obtain⟨rfl,rfl⟩:=C j;exact GC (f:=f) U p hv R
   next h1 h2=>exact eq (neg:=true) p (λk e=>h1 k e) h2 j
  ·obtain⟨rfl,rfl⟩:=C j;exact GC (f:=f) U p hv R
 case unOp op t x=>obtain⟨rfl,rfl⟩:=C j;exact aiJ (f:=f) U p hv R
 case convert s t x=>
  split at j
  next hs ht=>obtain⟨rfl,rfl⟩:=C j;exact aeN (f:=f) U p hs ht hv R
  next e hs ht=>
   split at j
   ·cases j
   next hz=>obtain⟨rfl,rfl⟩:=C j;exact ahf (fr:=f) U p hs ht hz hv R
  next u hs ht=>
   split at j
   ·cases j
   next hz=>obtain⟨rfl,rfl⟩:=C j;exact ahc (fr:=f) U p hs ht hz hv R
  next e hs ht=>
   split at j
   next he=>rw[q' rfl]at j;obtain⟨rfl,rfl⟩:=C j;exact aht (f:=f) U p hs ht he hv R
   ·rw[B' Ϛ]at j;cases j
  ·cases j
 case makeFunc fn first caps=>obtain⟨rfl,rfl⟩:=C j;exact ahk (f:=f) U p (hf rfl) hv R
 case makeMap t r=>
  split at j
  next k e hu=>obtain⟨rfl,rfl⟩:=C j;exact ahj (f:=f) U p hu (hf rfl) hv R
  ·cases j
 case makeSlice t l c=>
  split at j
  next e hu=>
   split at j
   ·rename_i z hz;split at j
    ·cases j
    next hn=>simp[akZ]at hn;obtain⟨rfl,rfl⟩:=C j;exact ahi (f:=f) U p hu hz hn.2 hn.1 (hf rfl) hv R
   ·cases j
  ·cases j
 case slice t x lo hi mx=>
  split at j
  next hu=>
   split at j
   ·cases j
   next hm=>have:=Qo hm;subst this;obtain⟨rfl,rfl⟩:=C j;exact aey (f:=f) U p hu hv R
  next e hu=>
   split at j
   ·cases j
   next hz=>obtain⟨rfl,rfl⟩:=C j;exact aez (f:=f) U p hu hz (hf rfl) hv R
  ·cases j
 case fieldAddr s x n=>
  split at j
  next fs hu=>
   split at j
   ·rename_i fd hn;split at j
    ·cases j
    next hz=>obtain⟨rfl,rfl⟩:=C j;exact aeM (f:=f) U p hu hn hz hv R
   ·cases j
  ·cases j
 case field s x n=>
  split at j
  next fs hu=>
   split at j
   ·rename_i fd hn;split at j
    ·cases j
    ·rename_i hz;split at j
     next b hb=>obtain⟨rfl,rfl⟩:=C j;exact aho (f:=f) U p hu hn hz hb hv R
     ·cases j
   ·cases j
  ·cases j
 case indexAddr t x i=>
  split at j
  next e hu=>
   split at j
   ·cases j
   next hz=>obtain⟨rfl,rfl⟩:=C j;exact aeK (f:=f) U p hu hz hv R
  next n e hu=>
   split at j
   ·cases j
   next hz=>obtain⟨rfl,rfl⟩:=C j;exact aeL (f:=f) U p hu hz hv R
  ·cases j
 case index t x i=>
  split at j
  next hu=>obtain⟨rfl,rfl⟩:=C j;exact aeJ (f:=f) U p hu hv R
  ·cases j
 case lookup t x i ok=>
  split at j
  next kt e hu=>
   split at j
   next q z hk hz=>obtain⟨rfl,rfl⟩:=C j;exact aeE (f:=f) U p hu hk hz hv R
   ·cases j
  ·cases j
 case mapUpdate t m kk x=>
  split at j
  next kt e hu=>
   split at j
   next q hk=>obtain⟨rfl,rfl⟩:=C j;exact ahe (f:=f) U (.inl p) hu hk hv R
   ·cases j
  ·cases j
 case mapEntry t m kk=>
  split at j
  next kt e hu=>
   split at j
   next q z hk hz=>obtain⟨rfl,rfl⟩:=C j;exact aeD (f:=f) U p hu hk hz hv R
   ·cases j
  ·cases j
 case entryStore t m s x=>obtain⟨rfl,rfl⟩:=C j;exact aeC (f:=f) U p hv R
 case range t x=>
  split at j
  next k e hu=>obtain⟨rfl,rfl⟩:=C j;exact aeA (f:=f) U p hu (hf rfl) hv R
  ·cases j
 case entry it=>obtain⟨rfl,rfl⟩:=C j;exact ahr (f:=f) U p hv R
 case extract x i=>obtain⟨rfl,rfl⟩:=C j;exact ahp (f:=f) U p hv R
 case call c=>
  split at j
  next b hcl=>exact Tq (f:=f) U p hcl j hf hv R
  next fi hcl=>
   split at j
   ·rename_i fn hfn;split at j
    ·cases j
    ·rename_i hb;split at j
     next k' hk=>obtain⟨rfl,rfl⟩:=C j;exact PA (f:=f) U p hcl hfn hb hk hf hv R
     ·cases j
   ·cases j
  ·cases j
end
variable [SymVal]
def RF (f:Option Nat):Fence:={ Fence.wide with round:=f }
variable{P:Program}{ro:Option Nat}{n B:Nat}{w:World}{o:Oper}{a:Act}{h:Pos→EO}{W:W0}{φ ψ:Gx}{e:Env}
def EQ {f:FuncId}{args:Array Value}{R:Ending→World→Prop}(h:Calls P f args w R):CallsIn (RF ro) n P f args w R:=by have g:CallsIn Fence.wide n P f args w R:=callsIn_wide.2 h;exact g
def fH (ro:Option Nat)(o:Oper):Prop:=ro=none∨∀c,o.op ≠ .defer c
def xS {K:Act→World→Prop}{Q:Exit→Act→World→Prop}(g:fH ro o)(h:o.wp P a w K Q):o.wpIn (RF ro) n P a w K Q:=by
 refine⟨λ_ _=>trivial, ?_⟩;have e:o.semAt (RF ro).round a.eval=execOp a.eval o:=by
  obtain rfl|g:=g
  ·rfl
  ·exact Oper.semAt_eq _ _ _ g
 rw[e];unfold Oper.wp at h;generalize (execOp a.eval o).run P w=r at h⊢;cases r with
 |ok x j=>
  cases x <;> simp[Oper.upon,Oper.uponIn]at h⊢;case value=>exact h
  case skip=>exact h
  case defer=>exact h
  case enter=>exact⟨(λq=>by cases q),EQ h⟩
  case row =>refine⟨(λq=>by cases q),λc p _=>?_⟩;obtain⟨v,f,r1,l⟩:=h c p;exact⟨v,f,r1,stepsIn_wide.2 l⟩
 |halt x j=>cases x <;> simp[Oper.upon,Oper.uponIn]at h⊢ <;> exact h
def Nn (h f:Pos→EO):Prop:=∀k,i5 (f k)=true→i5 (h k)=true
def cd (B:Nat)(φ:Gx)(h:Pos→EO)(w:World)(ψ:Gx)(f:Pos→EO)(g:World):Prop:=φ.le ψ∧(∀W,Inv B W φ h w→Inv B W ψ f g)∧Nn h f
def cd.refl {B:Nat}{φ:Gx}{h:Pos→EO}{w:World}:cd B φ h w φ h w:=⟨Gx.le.refl φ,λ_ h=>h,λ_ h=>h⟩
def RD {o:EO}(h:i5 o=true):DL o=true∨o = .none:=by cases o <;> first|exact .inl rfl|exact .inr rfl|cases h
def Z7 {wr:Option (Pos×EO)}(j:∀k g,wr=some (k,g)→i5 g=false):Nn h (tX h wr):=λk f=>by
 cases wr with
 |none=>exact f
 |some p=>
  obtain⟨l,g⟩:=p;simp[tX,upd]at f;split at f
  ·rw[j l g rfl]at f;cases f
  ·exact f
def cd.trans {B:Nat}{j g f:Gx}{P J C:Pos→EO}{r p l:World}(a:cd B j P r g J p)(b:cd B g J p f C l):cd B j P r f C l:=⟨a.1.trans b.1,λW h=>b.2.1 W (a.2.1 W h),λk R=>a.2.2 k (b.2.2 k R)⟩
def Inv.self (f:Inv B W φ h w):Inv B ⟨w,φ⟩ φ h w :=
 ⟨Below.refl _ _,Kp.refl _,Gx.le.refl _,λ_ _=>⟨λ_=>rfl,rfl,rfl,λ_ _ _=>rfl⟩,f.size,f.obj,f.sep⟩
def v7 {U :Pos→EO}{w' :World}(C:φ.le ψ)(f:Inv B ⟨w,φ⟩ ψ U w')(r:Nn h U):cd B φ h w ψ U w' :=
 ⟨C,(λW j=>⟨j.below.trans f.below,j.kp.trans f.kp,j.le.trans C,(λk hk=>by
  obtain⟨R,a2,a3,a4⟩:=f.res k hk;rcases RD (r k (XW hk))with h1|h1
  ·obtain⟨b1,b2,P,b4⟩:=j.res k h1;exact⟨λg=>(R g).trans (b1 g),a2.trans b2,a3.trans P,λg l J=>(a4 g l J).trans (b4 g l (by rw[←J];exact(R g).symm))⟩
  ·obtain⟨b1,b2,P⟩:=j.free h1;have T:∀{α:Type} {x y:Option α},y=none→(∀v,x=some v→y=some v)→x=none:=λ{α x y} hy hx=>by
    cases x with
    |none=>rfl
    |some v=>rw[hx v rfl]at hy;cases hy
   refine⟨λg=>(R g).trans ((b1 g).trans (T (b1 g) λv p=>j.le.loc k g v p).symm),a2.trans (b2.trans (T b2 λv p=>j.le.val k v p).symm),a3.trans (P.trans (T P λv p=>j.le.mu k v p).symm),λg l J=>?_⟩;rw[R g,show(W0.φ ⟨w,φ⟩).loc k g=φ.loc k g from rfl,b1 g]at J;cases J),f.size,f.obj,f.sep⟩),r⟩
def ER (φ:Gx)(e:Env)(f:Array Value):Prop:=∀t,t+2≤2^64→RT φ (e.get .unk (pos t)) (f.getD t undef)
def ER.mono {φ ψ:Gx}(h:φ.le ψ){e:Env}{f:Array Value}(j:ER φ e f):ER ψ e f:=λt g=>(j t g).mono h
def aer {t f:Nat}(h:t+2≤2^64)(l:f+2≤2^64)(e:pos t=pos f):t=f:=by have g:=uF 64 t h;have j:=uF 64 f l;unfold pos at e;rw[e,j]at g;exact g.symm
def ER.set {φ:Gx}{e:Env}{tmps:Array Value}(r:ER φ e tmps){d:Nat}(p:d<tmps.size)(g:d+2≤2^64){out:TV}{v:Value}(l:RT φ out v):ER φ (PM.set .unk (pos d) e out) (tmps.setIfInBounds d v):=λt j=>by
 rw[PM.get_set];simp[upd,m_,aj9];by_cases f:d=t
 ·subst f;rw[q' rfl,q' rfl,q' p];exact l
 ·rw[B' (λe=>f (aer g j e)),B' f];have:=r t j;rw[m_]at this;exact this
def nK (j:ER φ e a.tmps)(x:Operand):RT φ (bk e (oN x)) (a.eval x):=by
 cases x with
 |tmp t=>
  simp only[oN];split
  next h=>exact j t h
  ·exact trivial
 |const v=>
  simp[oN,bk,aiz];split
  next p hp=>exact Gc hp φ
  ·exact trivial
 |global g=>exact rfl
 |func f=>exact rfl
def vo {φ:Gx}{e:Env}{a:Act}(g:ER φ e a.tmps):∀f:List Operand,RTs φ (aT e (f.map oN)) (f.map a.eval)
 |[]=>trivial
 |x::f=>⟨nK g x,vo g f⟩
def eo (p:ER φ e a.tmps){l:Nat}(f:a.tmps.size=l){d:Option Tmp}{j:Option Pos}(g:UN l d=some j){out:TV}{v:Value}(r:RT φ out v):ER φ (aW e j out) (a.put d v).tmps∧(a.put d v).tmps.size=l:=by
 unfold UN at g;split at g
 ·cases g;exact⟨p,f⟩
 next d=>
  split at g
  next h=>cases g;exact⟨p.set (by rw[f];exact h.1) h.2 r,by simp[Act.put,f]⟩
  ·cases g
def tY:RT φ (.tup []) undef:=⟨[],rfl,rfl⟩
def Hv (hE:ER φ e a.tmps){p:Array Oper}{g:Option (Pos×Bool)}(r:CY p.toList o.guard=some g){b:Bool}(C:gd e g=some b):Region.wanted o (yielded p a.tmps)=b:=by
 unfold CY at r;split at r
 next hgd=>cases r;cases C;simp[Region.wanted,hgd]
 next j want hgd=>
  split at r
  next d R=>
   split at r
   ·rename_i U;cases r;have f:=hE d U;have P:yielded p a.tmps j=match a.tmps[d]? with|some (.bool b)=>some b|_=>none:=by
     have R:(p[j]?).bind (·.dst)=some d:=by simpa using R
     unfold yielded;rw[R];rfl
    simp[Region.wanted,hgd,P];simp[gd]at C;rw[m_]at f;split at C
    ·rename_i c T;simp at C;rw[T]at f;have f:=JL f;have:a.tmps[d]? = some (.bool c):=by
      cases J:a.tmps[d]? with
      |none=>rw[J]at f;cases f
      |some x=>rw[J]at f;rw[show x=Value.bool c from f]
     rw[this];subst C;cases want <;> cases c <;> rfl
    ·rename_i l T;simp at C;rw[T]at f;obtain⟨vs,_,f⟩:=f;subst C;cases J:a.tmps[d]? with
     |none=>rfl
     |some x =>rw[J]at f;rw[show x=Value.tuple vs.toArray from f];rfl
    ·cases C
   ·cases r
  ·cases r
def tG.more {p:Glt}(h:tG p P B W){r:Pos→EO}(l:Inv B W φ r w):tG p P B ⟨w,ψ⟩:=⟨λg t v C f j=>h.1 g t v C f (l.below.trans j),λf j=>h.2 f (l.below.trans j)⟩
structure Lq where
 j:Pos
 l:Nat
 lrec:Loop
 env:Env
 tmps:Array Value
def Ctx (f:List Lq)(φ:Gx)(w:World):Prop:=∀q∈f,(∃l,φ.loc q.j 0=some l∧l.b=q.l)∧w.heap[q.l]? = some (.loop q.lrec)∧ER φ q.env q.tmps
def Ctx.more {g:List Lq}{R :Pos→EO}{j :World}(r:Ctx g φ w)(C:Inv B W φ h w)(f:cd B φ h w ψ R j):Ctx g ψ j:=λq p=>by obtain⟨⟨l,P,J⟩,h3,h4⟩:=r q p;exact⟨⟨l,f.1.loc _ _ _ P,J⟩,(f.2.1 _ C.self).kp.keep _ _ h3 rfl,h4.mono f.1⟩
def cj (P:Program)(f:FuncId):Prop:=∃fn,P.funcs[f]? = some fn∧fn.body.isSome=true∧(fn.name == "runtime.NumGoroutine")=false
def Lc (P:Program)(t:Tgt)(φ:Gx)(w:World)(r:List Value)(R:Ending→World→Prop):Prop:=match t with
 |.fn f=>cj P f∧Calls P f r.toArray w R
 |.yld j=>∀l,φ.loc j 0=some l→∀(ro:Option Nat) (n:Nat),∃f g assign p,(Instr.yield l.b r.toArray).run P w = .ok (.round l.b f g assign p) w∧RoundIn (RF ro) n P l.b f g assign p w R
def I6 (B:Nat)(φ:Gx)(h:Pos→EO)(w:World)(g:Pos→EO)(out:TV):Ending→World→Prop:=λe f=>∃v ψ,e = .returned v∧cd B φ h w ψ g f∧RT ψ out v
def tH (P:Program)(p:Glt)(B:Nat)(call:Ck)(j:List Lq):Prop:=∀b t args d n v g l,call b t args d n = .ok v g l→∀W φ w,tG p P B W→Inv B W φ (HP.ov b d).get w→∀f,RTs φ args f→Ctx j φ w→Lc P t φ w f (I6 B φ (HP.ov b d).get w (HP.ov b g).get v)
def RU (P:Program)(C:Glt)(B:Nat)(p:Yk)(l:List Lq):Prop:=∀b j args d n v g r,p b j args d n = .ok v g r→∀W φ w,tG C P B W→Inv B W φ (HP.ov b d).get w→∀f,RTs φ args f→Ctx l φ w→Lc P (.yld j) φ w f (I6 B φ (HP.ov b d).get w (HP.ov b g).get v)
structure CkOk (P:Program)(Gl:Glt)(B:Nat)(ck:Callk)(Γ:List Lq):Prop where
 call:tH P Gl B ck.call Γ
 iter:∀yk' Γ',RU P Gl B yk' Γ'→tH P Gl B (ck.iter yk') Γ'
section
variable {P:Program}{Gl:Glt}{B:Nat}{W:W0}{φ:Gx}{h:Pos→EO}{w:World}{o:Oper}{a:Act}{e:Env}{nt:Nat}{ops:Array Oper}{Γ:List Lq}
variable{fo:FO}{al:Bool}{ro:Option Nat}{n i:Nat}{out:TV}{wr:Option (Pos×EO)}{x:Src}{dst:Option Pos}{args:List Src}{g:Option (Pos×Bool)}{t:Tgt}{vs:List TV}
def UM (f:cOp P Gl nt ops.toList o = .op fo al):∃dst j,UN nt o.dst=some dst∧CY ops.toList o.guard=some fo.guard∧cK P Gl o.op=some (fo.k,j)∧fo.args=j.map oN∧fo.dst=dst∧al=kAl fo.k:=by
 unfold cOp at f;split at f
 ·cases f
 next dst r=>
  split at f
  ·cases f
  next g p=>
   split at f
   next k j l=>injection f with h1 h2;subst h1;subst h2;exact⟨dst,j,r,p,l,rfl,rfl,rfl⟩
   ·split at f
    ·split at f <;> cases f
    ·split at f <;> cases f
    ·cases f
def Pu (hi:ops[i]? = some o)(hc:cOp P Gl nt ops.toList o = .op fo al)(U:Inv B W φ h w)(hG:tG Gl P B W)(hE:ER φ e a.tmps)(p:fH ro o){f:Pos}(hf:al=true→h f = .none)(g:stepF e h f fo=some (out,wr))
  {Q:Exit→Act→World→Prop} {K:Act→World→Prop} (T:∀ψ v j,cd B φ h w ψ (tX h wr) j→RT ψ out v→K (a.put o.dst v) j):wpOpIn (RF ro) n P ops Q i K a w:=by
 obtain⟨dst,xs,_,hg,hk,l,_,C⟩:=UM hc;unfold wpOpIn;simp[hi];unfold stepF at g;split at g
 next b hb=>
  rw[Hv hE hg hb];cases b with
  |false =>cases g;simp;exact⟨λ_ _=>trivial,T φ undef w cd.refl tY⟩
  |true =>simp;refine xS p ?_;have R:=vo hE xs;rw[←l]at R;obtain⟨h1,h2⟩:=adg (hG.more U (ψ:=φ)) U.self hk (λh'=>hf (by rw[C,h'])) R g;refine h1 K Q λv ψ j r J hr=>T ψ v j (v7 r J (Z7 h2)) hr
 ·cases g
def Nl (f:cOp P Gl nt ops.toList o = .nxt x dst):∃j,o.op = .next j false∧x=oN j∧UN nt o.dst=some dst∧o.guard=none:=by
 unfold cOp at f;split at f
 ·cases f
 next dst' p=>
  split at f
  ·cases f
  next g hg=>
   split at f
   ·cases f
   ·split at f
    ·split at f <;> cases f
    ·rename_i j l;split at f
     ·injection f with h1 h2;subst h1;subst h2;refine⟨j,l,rfl,p, ?_⟩;unfold CY at hg;split at hg
      ·assumption
      ·split at hg
       ·split at hg
        ·cases hg
        ·cases hg
       ·cases hg
     ·cases f
    ·cases f
def PK {h:Pos→EO}{t:TV}{k:Pos}{j:EO}(f:GQ h t=some (out,some (k,j))):i5 j=false:=by
 unfold GQ at f;split at f
 ·split at f
  ·simp only[θ,ο]at f;cases f.2
  next m since seen sp hk=>
   split at f
   ·rename_i l clock r;split at f
    ·cases g:(seen.isEmpty||l.isEmpty||l.any (λe=>Nat.blt e.born sp))with
     |false=>rw[g]at f;cases f
     |true=>rw[g]at f;simp only[I',θ,ο]at f;cases f.2
    ·rename_i x p;cases g:(Nat.blt x.born since&&Nat.blt x.born sp)with
     |false=>rw[g]at f;cases f
     |true =>rw[g]at f;cases f;rfl
    ·cases f
   ·cases f
  ·cases f
 ·cases f
def Ye (R:ops[i]? = some o)(U:cOp P Gl nt ops.toList o = .nxt x dst)(hI:Inv B W φ h w)(hE:ER φ e a.tmps)(j:fH ro o)(r:GQ h (bk e x)=some (out,wr))
  {Q:Exit→Act→World→Prop} {K:Act→World→Prop} (hK:∀ψ v f,cd B φ h w ψ (tX h wr) f→RT ψ out v→K (a.put o.dst v) f):wpOpIn (RF ro) n P ops Q i K a w:=by
 obtain⟨C,g,rfl,_,T⟩:=Nl U;unfold wpOpIn;simp[R];rw[q' (by simp[Region.wanted,T])];refine xS j ?_;refine(aeB hI.self g (nK hE C) r).1 K Q λv ψ f l p J=>hK ψ v f (v7 l p (Z7 λk o' e=>by subst e;exact PK r)) J
def BT (j:cOp P Gl nt ops.toList o = .call args dst g):∃cl f,o.op = .call cl∧cl.callee = .value f∧args=(f::cl.args.toList).map oN∧UN nt o.dst=some dst∧CY ops.toList o.guard=some g:=by
 unfold cOp at j;split at j
 ·cases j
 next dst' C=>
  split at j
  ·cases j
  next g' r=>
   split at j
   ·cases j
   ·split at j
    ·rename_i cl l;split at j
     next f p=>injection j with h1 h2 h3;subst h1;subst h2;subst h3;exact⟨cl,f,l,p,Ψ,C,r⟩
     ·cases j
    ·split at j <;> cases j
    ·cases j
def Bx (hI:Inv B W φ h w){args:List TV}(R:cI h args=some (t,vs)){us:List Value}(hr:RTs φ args us):∃f U,us=f::U∧match t with
  |.fn g=>∃first J,f = .func (.func g) first J∧RTs φ vs (first.toList++U++J.toList)
  |.yld j=>∃l,φ.loc j 0=some l∧f = .func (.yield l.b) #[] #[]∧RTs φ vs U:=by
 unfold cI at R;split at R
 next f r=>cases R;obtain⟨v,ws,rfl,p,T⟩:=hr.cons;have p:some (Value.func (.func f) #[] #[])=some v:=p;injection p with p;exact⟨v,ws,rfl, #[], #[],p.symm,by simpa using T⟩
 next k r=>
  obtain⟨v,ws,rfl,p,T⟩:=hr.cons;have P:=hI.obj k;have p:den φ (.clo k)=some v:=p;simp only at R;split at R
  next f first J hk=>
   cases R;rw[hk]at P;obtain⟨_,A,C,q1,q2,q3⟩:=P;simp[den,q3]at p;exact⟨v,ws,rfl,A.toArray,C.toArray,p.symm,by simpa using((ND q1).append T).append (ND q2)⟩
  next hk=>cases R;rw[hk]at P;obtain⟨_,l,q1,_,q3,_⟩:=P;simp[den,q3]at p;exact⟨v,ws,rfl,l,q1,p.symm,T⟩
  ·cases R
 ·cases R
def Ib (hi:ops[i]? = some o)(hc:cOp P Gl nt ops.toList o = .call args dst g)(hgd:gd e g=some true)(hI:Inv B W φ h w)(hE:ER φ e a.tmps)(hnd:fH ro o)(he:cI h (aT e args)=some (t,vs)){h':Pos→EO}
  (hck:∀us,RTs φ vs us→Lc P t φ w us (I6 B φ h w h' out)) {Q:Exit→Act→World→Prop} {K:Act→World→Prop} (hK:∀ψ v w',cd B φ h w ψ h' w'→RT ψ out v→K (a.put o.dst v) w'):wpOpIn (RF ro) n P ops Q i K a w:=by
 obtain⟨cl,f,hop,hcl,rfl,_,hg⟩:=BT hc;unfold wpOpIn;simp[hi];rw[Hv hE hg hgd,q' rfl];obtain⟨fv,xs,hus,ht⟩:=Bx hI he (vo hE (f::cl.args.toList));simp at hus;obtain⟨hf,hxs⟩:=hus;have post:∀e w',I6 B φ h w h' out e w'→∃v,e = .returned v∧K (a.put o.dst v) w':=λe w' hr=>by obtain⟨v,ψ,h1,h2,h3⟩:=hr;exact⟨v,h1,hK ψ v w' h2 h3⟩
 cases t with
 |fn f'=>
  obtain⟨first,caps,h1,h2⟩:=ht;obtain⟨⟨fn,f1,f2,f3⟩,hcalls⟩:=hck _ h2;have hbody:¬fn.body=none:=by cases hb:fn.body <;> simp_all
  have f3:¬fn.name = "runtime.NumGoroutine":=by simpa using f3
  have hrun:(execOp a.eval o).run P w = .ok (.enter f' (first.toList++xs++caps.toList).toArray) w:=by
   have e2:first++cl.args.map a.eval++caps=(first.toList++xs++caps.toList).toArray:=B_ (by simp[hxs])
   unfold execOp;simp[hop,resolve,hcl,hf,h1,Deferred.ofValue,ν,j_,invoke,callFunc,g?,f1,e2];simp[f3,hbody]
  refine xS hnd ?_;unfold Oper.wp;rw[hrun];refine hcalls.mono ?_;intro e w' hr;obtain⟨v,rfl,hk⟩:=post e w' hr;exact hk
 |yld j=>
  obtain⟨l,h1,h2,h3⟩:=ht;obtain⟨f',tmps,assign,body,hy,hround⟩:=hck _ h3 l h1 ro (n-1);have hrun:(execOp a.eval o).run P w = .ok (.round l.b f' tmps assign body) w:=by have e2:cl.args.map a.eval=xs.toArray:=B_ (by simp[hxs]);unfold execOp;simp[hop,resolve,hcl,hf,h2,Deferred.ofValue,ν,j_,invoke,e2,hy]
  refine⟨λ_ _=>trivial, ?_⟩;have es:o.semAt (RF ro).round a.eval=execOp a.eval o:=by
   obtain rfl|hd:=hnd
   ·rfl
   ·exact Oper.semAt_eq _ _ _ hd
  rw[es,hrun,Oper.uponIn_round];refine⟨(λq=>by cases q),hround.mono ?_⟩;intro e w' hr;obtain⟨v,rfl,hk⟩:=post e w' hr;exact hk
def FA (p:ops[i]? = some o)(J:cOp P Gl nt ops.toList o = .call args dst g)(j:gd e g=some false)(T:ER φ e a.tmps)
  {Q:Exit→Act→World→Prop} {K:Act→World→Prop} (R:K (a.put o.dst undef) w):wpOpIn (RF ro) n P ops Q i K a w:=by
 obtain⟨cl,f,l,C,rfl,_,r⟩:=BT J;unfold wpOpIn;simp[p];rw[Hv T r j];simp;exact⟨λ_ _=>trivial,R⟩
end
variable [SymVal]
structure Rl (B lo:Nat)(U:Gx)(h0:Pos→EO)(T:World)(nt:Nat)(e:Env)(h:Pos→EO)(a:Act)(w:World):Prop where
 ex:∃φ,cd B U h0 T φ h w∧ER φ e a.tmps
 sz:a.tmps.size=nt
 df:∃ms:List Nat,a.defers=ms.map (λD=>{ target :=.collected D,args :=#[] })∧ms.Nodup∧∀D∈ms,lo≤D∧w.heap[D]? = some (.deferred (some []))
def FE (b:HP)(d:DM)(wr:Option (Pos×EO)):(HP.ov b (ul d wr)).get=tX (HP.ov b d).get wr:=by
 cases wr with
 |none=>rfl
 |some p=>exact HP.get_set b d p.1 p.2
section
variable {P:Program}{Gl:Glt}{B lo:Nat}{W:W0}{U:Gx}{h0:Pos→EO}{T:World}{nt:Nat}{ops:Array Oper}{Γ:List Lq}{ck:Callk}
def Rl.step (j:Inv B W U h0 T){e:Env}{h:Pos→EO}{a:Act}{w:World}(r:Rl B lo U h0 T nt e h a w){φ ψ:Gx}{J:Pos→EO}{l:World}(p:cd B U h0 T φ h w)(hE:ER φ e a.tmps)(f:cd B φ h w ψ J l){d:Option Tmp}{g:Option Pos}(hd:UN nt d=some g){out:TV}{v:Value}(R:RT ψ out v):Rl B lo U h0 T nt (aW e g out) J (a.put d v) l:=by obtain⟨h1,h2⟩:=eo (hE.mono f.1) r.sz hd R;obtain⟨P,m1,m2,m3⟩:=r.df;refine⟨⟨ψ,p.trans f,h1⟩,h2,P, ?_,m2,λD C=>⟨(m3 D C).1,(f.2.1 _ (p.2.1 _ j).self).kp.keep _ _ (m3 D C).2 rfl⟩⟩;cases d <;> exact m1
def kS (B lo:Nat)(U:Gx)(h0:Pos→EO)(T:World)(nt:Nat)(e:Env)(h:Pos→EO):Exit→Act→World→Prop
 |.normal,a,w=>Rl B lo U h0 T nt e h a w
 |_,_,_=>False
def bu {ro:Option Nat}{n:Nat}(j:Inv B W U h0 T)(hG:tG Gl P B W)(C:CkOk P Gl B ck Γ)(hcx:Ctx Γ U T)(hnd:∀o∈ops.toList,fH ro o){b:HP}{e':Env}{d':DM}{n':Pos}{Q:Exit→Act→World→Prop}(hQ:∀a w,Rl B lo U h0 T nt e' (HP.ov b d').get a w→Q .normal a w):∀(l:List Oper) (i:Nat) (e:Env) (d:DM) (f:Pos) (a:Act) (w:World),ops.toList.drop i=l →
  aP ck b (nS P Gl nt ops.toList l) e d f = .ok e' d' n'→Rl B lo U h0 T nt e (HP.ov b d).get a w→wpOpsIn (RF ro) n P ops Q (List.range' i (ops.size-i)) a w
 |[],i,e,d,f,a,w,hd,h,hr=>by
  have hsz:ops.size-i=0:=by have:=d_ List.length hd;simpa using this
  rw[hsz];simp only[nS,aP]at h;injection h with h1 h2 h3;subst h1;subst h2;exact hQ _ _ hr
 |o::l,i,e,d,f,a,w,hd,h,hr=>by
  have hlt:i<ops.size:=by have:=d_ List.length hd;simp at this;omega
  have R:ops[i]? = some o:=by
   have:(ops.toList.drop i)[0]? = some o:=by rw[hd];rfl
   rw[h_]at this;simpa using this
  have hd':ops.toList.drop (i+1)=l:=by rw[←List.drop_drop,hd];rfl
  have hno:fH ro o:=hnd o (y_.2 (A? R));rw[show ops.size-i=(ops.size-(i+1))+1 by omega,W_,wpOpsIn_cons];obtain⟨φ,hs,hE⟩:=hr.ex;have hI:=hs.2.1 _ j;simp[nS,aP]at h;split at h
  next fo al hc=>
   obtain⟨dst,xs,p,_,_,_,hfd,_⟩:=UM hc;cases J:bz al (HP.ov b d).get f with
   |false=>rw[J]at h;cases h
   |true=>
    rw[J,I']at h;split at h
    ·rename_i out wr hst;have hf:al=true→(HP.ov b d).get f = .none:=λhal=>by
      subst hal;unfold bz at J;simp only at J;split at J
      next hn=>exact hn
      ·cases J
     refine Pu R hc hI hG hE hno hf hst λψ v w' r hv=>?_;have:=hr.step j hs hE r p hv;rw[←FE]at this;rw[hfd]at h;exact bu j hG C hcx hnd hQ l (i+1) _ _ _ _ w' hd' h this
    ·cases h
  next args dst g hc=>
   obtain⟨_,_,_,_,_,p,_⟩:=BT hc;split at h
   ·rename_i hg;split at h
    ·rename_i t vs hen;split at h
     next out d1 n1 hcall=>refine Ib R hc hg hI hE hno hen (λus hus=>C.call _ _ _ _ _ _ _ _ hcall W φ w hG hI us hus (hcx.more j hs)) λψ v w' r hv=>?_;exact bu j hG C hcx hnd hQ l (i+1) _ _ _ _ w' hd' h (hr.step j hs hE r p hv)
     ·cases h
    ·cases h
   next hg=>refine FA R hc hg hE ?_;exact bu j hG C hcx hnd hQ l (i+1) _ _ _ _ w hd' h (hr.step j hs hE cd.refl p tY)
   ·cases h
  next x dst hc=>
   obtain⟨_,_,_,p,_⟩:=Nl hc;split at h
   next out wr hst=>refine Ye R hc hI hE hno hst λψ v w' r hv=>?_;have:=hr.step j hs hE r p hv;rw[←FE]at this;exact bu j hG C hcx hnd hQ l (i+1) _ _ _ _ w' hd' h this
   ·cases h
  ·cases h
end
