/- Closed runs. -/
import Derived.Test.YtfgpipfjalmooaaGreatCloQ
import Derived.Lib.MakeNoZero
import Derived.Lib.UnsafeStr
import Derived.Laws.Externs
import Derived.Lib.Bytealg
import Derived.KernelRfl
import Derived.RangeFuncCalls
import Derived.RangeFuncLeaves
import Derived.OrdersIn
import Derived.LoopNIn
import Derived.LoopN
import Derived.RangeFuncIn
import Derived.RangeFuncRecord
set_option linter.all false
namespace Go.Proofs.YtfgpipfjalmooaaGreat
namespace Clo
open Go Go.RowKit
variable [SymVal]
section
variable {P:Program}{B:Nat}{T:W0}{φ:Gx}{h:Pos→EO}{w:World}{o:Oper}{a:Act}
def GI {s:Nat}:∀{g:List Nat} {J:List TV} {i:Nat} {l:List (List CV)} {f:List Value},PE s i g J=some l→RTs φ J f→g=List.range' i f.length∧l.length=f.length∧(∀v∈f,v.cells.size=s)∧aU φ l.flatten=some (f.map λv=>v.cells.toList).flatten∧∀a∈l,a.length=s
 |[],[],i,l,f,h,hr=>by cases h;rw[hr.nil];exact⟨rfl,rfl,(λv hv=>by cases hv),rfl,λa ha=>by cases ha⟩
 |j::js,.pv p::J,i,l,f,h,hr=>by
  obtain⟨v,ws,rfl,h1,h2⟩:=hr.cons;simp[PE]at h;cases r:(Nat.beq i j&&Nat.beq p.cells.length s)with
  |false=>rw[r]at h;cases h
  |true=>
   rw[r,O']at h;simp at r;obtain⟨rfl,c2⟩:=r;split at h
   ·rename_i l' hl;cases h;obtain⟨q1,q2,q3,U,T⟩:=GI hl h2;have R:=cW (φ:=φ) (p:=p) (v:=v) h1;refine⟨by rw[q1,w_,Z_],by simp[q2],λu C=>?_, ?_,λb P=>?_⟩
    ·obtain rfl|C:=J'.1 C
     ·rw[←Array.length_toList,bf R,c2]
     ·exact q3 u C
    ·rw[L_,X_,L_];exact ct R U
    ·obtain rfl|P:=J'.1 P
     ·exact c2
     ·exact T b P
   ·cases h
 |[],_::_,_,_,_,h,_=>by simp[PE]at h
 |_::_,[],_,_,_,h,_=>by simp[PE]at h
 |_::_,.unk::_,_,_,_,h,_=>by simp[PE]at h
 |_::_,.tup _::_,_,_,_,h,_=>by simp[PE]at h
def IF (f:Operand→Value):∀(l:List (Nat×Operand)) (i:Nat),l.map (·.1)=List.range' i (l.map λp=>f p.2).length→l.map (λp=>(p.1,f p.2))=(List.range' i (l.map λp=>f p.2).length).zip (l.map λp=>f p.2)
 |[],i,_=>rfl
 |p::l,i,h=>by simp only[X_,w_,Z_,n_]at h;simp only[X_,w_,Z_,aks,n_,I',T_];exact⟨h.1,IF f l (i+1) h.2⟩
variable{f:Pos}{J:List TV}{out:TV}{wr:Option (Pos×EO)}
def aam {b N s n:Nat}{cap:Option Nat}(g:Bo cap n N 0=true):RT (φ.add f ⟨b,N,s⟩) (.pv (.one (.sl f 0 0 n cap))) (.slice (some ⟨b,0,none⟩) n (iX cap N 0)):=by show den _ (.sl f 0 0 n cap)=_;simp[den,Gx.add_self,g]
def ahP (hI:Inv B T φ h w){t e:TypeId}{len:Nat}{parts:Array (Nat×Operand)}(ho:o.op = .buildSlice t len parts)(hu:P.underlying t=some (.slice e)){z:PV}(hz:er P e=some z)(hzs:z.cells.length=au P e)(hs0:au P e≠0)(hf:h f = .none)(hv:RTs φ J ((parts.toList.map (·.2)).map a.eval))
  (hq:(afW e (au P e) len z.cells (parts.toList.map (·.1)) J f).run h=some (out,wr)):OkX P B T φ h w o a out wr:=by
 unfold afW at hq;split at hq
 next l hl=>
  cases hc:(Nat.ble l.length len&&Nat.ble (len*au P e) 16777216)with
  |false=>rw[hc]at hq;cases hq
  |true=>
   rw[hc,O']at hq;simp[br]at hc;obtain⟨c1,c2⟩:=hc;cases hq;have hv':RTs φ J (parts.toList.map λp=>a.eval p.2):=by simpa[U?,Function.comp_def]using hv
   obtain⟨q1,q2,q3,q4,q5⟩:=GI hl hv';obtain⟨i,zv,h1,h2,h3⟩:=gI hz;have hzd:=cW (h3 φ);have C:zv.cells.size=au P e:=by rw[←Array.length_toList,bf hzd,hzs]
   have hzl:zv.cells.toList.length=au P e:=by rw[C'];exact C
   have his:i.size=au P e:=by simp[au,h1]
   have hzf:=Ew zv.cells len Ω;have hzz:((Array.range (len*zv.cells.size)).map (zv.cells[· % zv.cells.size]!)).size=len*au P e:=by simp[C]
   obtain⟨r,e1,e2⟩:=uR (au P e) (parts.toList.map λp=>a.eval p.2) 0 ((Array.range (len*zv.cells.size)).map (zv.cells[· % zv.cells.size]!)) q3 (by rw[hzz,b_,←q2];exact r_ _ c1);rw[←IF a.eval parts.toList 0 q1]at e1;rw[hzf,akB,v?,t_,b_,←q2,QR hzl _ _ c1]at e2;have U:∀b∈l++List.replicate (len-l.length) z.cells,b.length=au P e:=λb hb=>by
    obtain hb|hb:=χ.1 hb
    ·exact q5 b hb
    ·rw[ak4 hb,hzs]
   have hd:aU φ (l++List.replicate (len-l.length) z.cells).flatten=some r.toList:=by rw[akO,e2];exact ct q4 (Ht hzd _)
   have hll:(l++List.replicate (len-l.length) z.cells).length=len:=by simp;omega
   have hsz:r.size=len*au P e:=by rw[←Array.length_toList,bf hd,iP U,hll]
   have hlen:len≤16777216:=ν (Nat.le_mul_of_pos_right len Ω) c2;obtain⟨p1,p2⟩:=hI.newR hf (e:=e) (s:=au P e) (N:=len) (l:=l++List.replicate (len-l.length) z.cells) (vs:=r.toList) (arr:=r) (fr:=(0,0)) (fz :=.no) Ω U hd (λj u hu=>by simpa using hu) hsz Ω Ω rfl;rw[hll]at p2;refine jX (v :=.slice (some ⟨w.heap.size,0,none⟩) len len) ?_ p1 p2 (aam (cap:=some len) rfl);have hne:len*au P e=0∨len*au P e≠0:=Ω
   have hbig:¬len*i.size>2^24:=by rw[his];omega
   have g:(parts.map λp=>(p.1,a.eval p.2)).toList=parts.toList.map λp=>(p.1,a.eval p.2):=by simp
   unfold execOp;by_cases h0:len*au P e=0
   ·have R:((Array.range (len*au P e)).map ((#[]:Array Value)[· % (#[]:Array Value).size]!))=((Array.range (len*zv.cells.size)).map (zv.cells[· % zv.cells.size]!)):=by
     rw[C,h0];exact Array.ext Ψ λj hj _=>by simp at hj
    simp only[ho,Instr.buildSlice,υ,θ hu,ο,aH hs0];rw[Θ Ω];simp only[h0,j?,υ,j_,ο];rw[h0]at R;rw[R,g,e1];simp[Go.newRow]
   ·simp only[ho,Instr.buildSlice,υ,θ hu,ο,aH hs0];rw[Θ Ω];have hzr:(zeroValue e).run P w = .ok zv w:=by simp[zeroValue,typeInfo,h1,h2]
    simp only[h0,alf,υ,j_,ο,hzr];rw[C]at e1;rw[C,g,e1];simp[Go.newRow]
 ·cases hq
def ahM (hI:Inv B T φ h w){t e:TypeId}{x y:Operand}(ho:o.op = .makeSlice t x y)(hu:P.underlying t=some (.slice e)){z:PV}(hz:er P e=some z)(p:z.cells.length=au P e)(hs0:au P e≠0)(hf:h f = .none)(hv:RTs φ J [a.eval x,a.eval y])
  (g:(afT e (au P e) (xl P e) z.cells J f).run h=some (out,wr)):OkX P B T φ h w o a out wr:=by
 unfold afT at g;split at g
 ·obtain⟨v1,ws,e1,hr1,hr2⟩:=hv.cons;obtain⟨v2,e2,hr3⟩:=hr2.one;subst e2;simp at e1;obtain⟨e1,e2⟩:=e1;subst e1;subst e2;split at g
  next k1 n k2 c=>
   cases U:(Nat.ble n c&&Nat.ble c 16777216&&Nat.ble (c*xl P e) 16777216)with
   |false=>rw[U]at g;cases g
   |true=>
    rw[U,O']at g;simp[br]at U;obtain⟨⟨c1,c2⟩,c3⟩:=U;cases g;obtain⟨i,zv,h1,h2,h3⟩:=gI hz;have r:=cW (h3 φ);have hzv:zv.cells.size=au P e:=by rw[←Array.length_toList,bf r,p]
    have C:i.size=au P e:=by simp[au,h1]
    have hib:i.bytes=xl P e:=by simp[xl,h1]
    have hzf:=Ew zv.cells c Ω;have hd:=Ht r c;have R:∀b∈List.replicate c z.cells,b.length=au P e:=λb hb=>by rw[ak4 hb,p]
    obtain⟨p1,p2⟩:=hI.newR hf (e:=e) (s:=au P e) (N:=c) (l:=List.replicate c z.cells) (vs:=(List.replicate c zv.cells.toList).flatten) (arr:=madeCells zv.cells (c*i.size)) (fr:=(0,0)) (fz :=.no) Ω R hd (λj u hu=>by
     rw[C,←hzv,←Array.getElem?_toList,madeCells,hzf];exact hu) (by rw[size_madeCells,C]) Ψ Ξ rfl
    rw[List.length_replicate]at p2;refine jX (v :=.slice (some ⟨w.heap.size,0,none⟩) n c) ?_ p1 p2 (aam (cap:=some c) rfl);have hx:a.eval x = .int k1 (n:Int):=dF hr1;have hy:a.eval y = .int k2 (c:Int):=dF hr3;have hb':(i.bytes:Int)*(c:Int)≤281474976710656:=by
     have h:((c*xl P e:Nat):Int)≤16777216:=Ω
     rw[Int.natCast_mul,Int.mul_comm]at h;rw[hib];omega
    have:=run_make (P:=P) w t e i zv hu h1 h2 k1 k2 n c Ω Ω hb' Ω;unfold execOp;simp[ho,hx,hy,υ,this,j_]
  ·cases g
 ·cases g
end
variable [SymVal]
section
variable {P:Program}{B:Nat}{T:W0}{φ:Gx}{h:Pos→EO}{w:World}{o:Oper}{a:Act}
def aiu:(Extern.allGenericRows.lookup "internal/abi.NoEscape").isNone=true:=Φ
def ait:(Extern.allTypedRows.lookup "internal/abi.NoEscape").isNone=true:=Φ
def ais:Extern.allRows.lookup "internal/abi.NoEscape" = some Extern.AbiNoEscape.same:=Φ
variable{fn:Func}{cl:Call}{f:FuncId}{J:List TV}{fr k:Pos}{out:TV}{wr:Option (Pos×EO)}{x:Operand}{e:TypeId}{arr:Array Value}{s g:Nat}{el:PT Ch}{fz:Fz}{l:Loc}
def Iq (h:fn.name = "internal/abi.NoEscape"):Extern.find fn=some Extern.AbiNoEscape.same:=by simp only[Extern.find,h,akp.1 aiu,akp.1 ait,ais];rfl
def air:(Extern.allGenericRows.lookup "internal/bytealg.IndexByteString").isNone=true:=Φ
def aiq:(Extern.allTypedRows.lookup "internal/bytealg.IndexByteString").isNone=true:=Φ
def aip:Extern.allRows.lookup "internal/bytealg.IndexByteString" = some Extern.BytealgIndexByte.indexByte:=Φ
def Hd (h:fn.name = "internal/bytealg.IndexByteString"):Extern.find fn=some Extern.BytealgIndexByte.indexByte:=by simp only[Extern.find,h,akp.1 air,akp.1 aiq,aip];rfl
def Qz {e:Array Value→Sem Value}(ho:o.op = .call cl)(hcl:cl.callee = .value (.func f))(hf:P.funcs[f]? = some fn)(hb:fn.body=none)(hname:fn.name ≠ "runtime.NumGoroutine")(hn:Extern.findNext fn=none)(he:Extern.find fn=some e){v:Value}{w':World}(hr:(e (cl.args.map a.eval)).run P w = .ok v w'):(execOp a.eval o).run P w = .ok (.value v) w':=by have hc:=run_callFunc_extern (P:=P) hf (by simpa using hname) (by simp[hb]) hn he (cl.args.map a.eval) w;unfold execOp;simp[ho,resolve,hcl,Act.eval,Deferred.ofValue,invoke,hc,hr]
def O9 (hI:Inv B T φ h w)(ho:o.op = .call cl)(hcl:cl.callee = .value (.func f))(hf:P.funcs[f]? = some fn)(hb:fn.body=none)(hn:Extern.findNext fn=none)(he:fn.name = "internal/abi.NoEscape")(hv:RTs φ J (cl.args.toList.map a.eval))(hq:(Uc J fr).run h=some (out,wr)):OkX P B T φ h w o a out wr:=by
 unfold Uc at hq;split at hq
 ·cases hq;obtain⟨v,e1,hr⟩:=hv.one;have e2:cl.args.map a.eval = #[v]:=by
   apply E_;rw[alG,e1]
  exact ax hI (Qz ho hcl hf hb (by rw[he];decide) hn (Iq he) (by rw[e2];rfl)) hr
 ·cases hq
def JS (c:Nat)(r:c<256):∀(l:List Nat) (i:Nat),cE l=true→abQ c l i=if Lib.indexByte (l.map UInt8.ofNat) (UInt8.ofNat c) = -1 then -1 else Lib.indexByte (l.map UInt8.ofNat) (UInt8.ofNat c)+(i:Int)
 |[],i,_=>rfl
 |b::l,i,h=>by
  obtain⟨P,J⟩:=gC h;simp only[abQ,X_,Lib.indexByte];cases C:Nat.beq b c with
  |true =>rw[qW.1 C];simp
  |false=>
   have j:(UInt8.ofNat b == UInt8.ofNat c)=false:=by have:=I_ C;rw[P'];exact λe=>this (B7 P r e)
   rw[j,H_,JS c r l (i+1) J];have p:=Lib.indexByte_ge (l.map UInt8.ofNat) (UInt8.ofNat c);generalize Lib.indexByte (l.map UInt8.ofNat) (UInt8.ofNat c)=x at p⊢;by_cases g:x = -1
   ·subst g;rfl
   ·have f:(x == -1)=false:=by rw[P'];exact g
    simp[g,f];rw[Θ Ω];omega
def ahR (hI:Inv B T φ h w)(ho:o.op = .call cl)(hcl:cl.callee = .value (.func f))(hf:P.funcs[f]? = some fn)(hb:fn.body=none)(hn:Extern.findNext fn=none)(he:fn.name = "internal/bytealg.IndexByteString")(hv:RTs φ J (cl.args.toList.map a.eval))(hq:(acu J fr).run h=some (out,wr)):OkX P B T φ h w o a out wr:=by
 unfold acu at hq;split at hq
 ·obtain⟨v1,ws,e1,hr1,hr2⟩:=hv.cons;obtain⟨v2,e2,hr3⟩:=hr2.one;subst e2;split at hq
  next b c=>
   cases hc:Nat.blt c 256 with
   |false=>rw[hc]at hq;cases hq
   |true=>
    rw[hc,O',cO]at hq;have hc:=cw.1 hc;cases hq;obtain⟨h1,h2⟩:=pl hr1;have h3:v2 = .int .u8 (c:Int):=dF hr3;have e2:cl.args.map a.eval = #[v1,v2]:=by apply E_;rw[alG,e1]
    refine ax hI (v :=.int .i64 (abQ c b 0)) (Qz ho hcl hf hb (by rw[he];decide) hn (Hd he) ?_) (di _ _);rw[e2,h2,h3];unfold rC;rw[Lib.run_indexByteString];have hs:=JS c hc b 0 h1;have hcc:((c:Int).toNat).toUInt8=UInt8.ofNat c:=rfl;rw[hs,hcc];by_cases hx:Lib.indexByte (b.map UInt8.ofNat) (UInt8.ofNat c) = -1
    ·rw[G' hx,hx]
    ·rw[Θ hx];simp
  ·cases hq
 ·cases hq
def ahG (hI:Inv B T φ h w)(ho:o.op = .call cl)(C:cl.callee = .builtin .unsafeSliceData)(l:cl.args = #[x])(hv:RTs φ J [a.eval x])(f:(act J fr).run h=some (out,wr)):OkX P B T φ h w o a out wr:=by
 have hex:∀{v w'},(Builtin.unsafeSliceData_ cl.argTypes o.type #[a.eval x]).run P w = .ok v w'→(execOp a.eval o).run P w = .ok (.value v) w':=λp=>by unfold execOp;simp[ho,resolve,C,l,invoke,builtin,p]
 unfold act at f;split at f
 ·obtain⟨v,e,p⟩:=hv.one;cases e;split at f
  ·cases f;exact ax hI (v :=.pointer none) (hex (by rw[gi p];rfl)) rfl
  next k g j n cap=>
   obtain⟨r,hl,ev,R⟩:=Lj p;have hc:iX cap r.n (j/r.s)≠0∧out = .pv (.one (.ptr k g j))∧wr=none:=by
    cases cap with
    |some c=>
     simp only at f;cases U:Nat.blt 0 c with
     |false=>rw[U]at f;cases f
     |true =>rw[U]at f;simp[rQ,Q.run]at f;have:=cw.1 U;exact⟨by simp[iX];omega,f.1.symm,f.2.symm⟩
    |none =>simp[rQ,Q.run]at f;have:=br.1 R;exact⟨by simp[iX];omega,f.1.symm,f.2.symm⟩
   obtain⟨h1,rfl,rfl⟩:=hc;refine ax hI (v :=.pointer (some ⟨r.b,j,none⟩)) (hex ?_) ?_
   ·rw[ev];exact Lib.run_unsafeSliceData_row w _ _ _ _ _ h1
   ·show den φ (.ptr k g j)=_;simp[den,hl]
  ·cases f
 ·cases f
def Sm {fits:TypeId→Bool}:∀(d:Nat) (e:TypeId) {c g:Nat} (f n:Nat),c≤g→rowAt P fits d e c f n=true→rowAt P fits d e g f n=true
 |0,_,_,_,_,_,_,h=>by simp[rowAt]at h
 |d+1,e,c,g,f,n,hc,h=>by
  unfold rowAt at h⊢;by_cases p:P.cellsOf e=0
  ·simp[p]at h
  ·simp only[p,alf]at h⊢;simp at h⊢;rcases h with⟨⟨l,j⟩,h3⟩|⟨l,j⟩
   ·exact .inl ⟨⟨l,Ω⟩,h3⟩
   ·exact .inr ⟨Ω,j⟩
def C7:∀(d:Nat) (e:TypeId) {c g:Nat} (f:Nat) (u:TypeId) (n:Nat),c≤g→liesAt P d e c f u n=true→liesAt P d e g f u n=true
 |0,_,_,_,_,_,_,_,h=>by simp[liesAt]at h
 |d+1,e,c,g,f,u,n,hc,h=>by
  unfold liesAt at h⊢;simp at h⊢;obtain h|h:=h
  ·exact .inl (Sm _ e f n hc h)
  ·right;cases j:P.underlying u with
   |none=>rw[j]at h;exact h
   |some l=>
    rw[j]at h;cases l <;> first|exact h|exact C7 d e f _ _ hc h
def Xx {b:Nat}{fr:Nat×Nat}(f:w.heap[b]? = some (.cells arr e fr)):(shape b).run P w = .ok (some (e,arr.size)) w:=by simp[shape,Sem.run,World.shape?,f]
def Fk {a:Addr}{fr:Nat×Nat}(f:w.heap[a.block]? = some (.cells arr e fr)):(Conv.seenAt a).run P w = .ok a w:=by simp[Conv.seenAt,viewAt,Xx f]
def DS (U:Inv B T φ h w){len f:Nat}(R:h k = .row e s el len f fz)(j:φ.loc k g=some l):∃arr fr,w.heap[l.b]? = some (.cells arr e fr)∧arr.size=l.n*s∧(g=f→len≤l.n)∧l.s=s∧0<s:=by
 have p:=U.obj k;rw[R]at p;obtain⟨h0,_,_,h2,h3⟩:=p;obtain hg|hg:=h_ f g
 ·rw[h2 g hg]at j;cases j
 ·obtain⟨l',q1,⟨q2,P,arr,fr,J,C,q6,q7⟩,r⟩:=h3 g hg;rw[q1]at j;cases j;exact⟨arr,fr,J,C,r,P,h0⟩
def Vp:RT φ (.pv (.one .nilp)) (.pointer none):=rfl
def ahJ (C:Inv B T φ h w){s t:TypeId}(ho:o.op = .convert s t x)(hs:P.underlying s=some (.pointer e))(ht:P.underlying t=some .unsafePointer)(hz:au P e≠0)(hv:RTs φ J [a.eval x])(f:(afS J fr).run h=some (out,wr)):OkX P B T φ h w o a out wr:=by
 have hex:∀{v w'},(Conv.unsafePointer s t (a.eval x)).run P w = .ok v w'→(execOp a.eval o).run P w = .ok (.value v) w':=λr=>by unfold execOp;simp[ho,convert,θ hs,θ ht,r]
 unfold afS at f;split at f
 ·obtain⟨v,e1,r⟩:=hv.one;cases e1;split at f
  next k g j=>
   simp[Q.run]at f;split at f
   ·rename_i cs hcs;cases f;obtain⟨l,hl,ev⟩:=iw r;refine ax C (v :=.pointer (some ⟨l.b,j,none⟩)) (hex ?_) (by rw[←ev];exact r);obtain⟨U,q1,q2,q3,e',len,gen,fz,s',el,hk,_,_⟩:=C.rd hcs hl;have hvl:U.length=1:=by rw[bf q1,q2]
    obtain⟨u,rfl⟩:∃u,U=[u]:=by
     match U,hvl with
     |[u],_=>exact⟨u,rfl⟩
    have hc:=q3 0 u rfl;rw[pE,akS]at hc;obtain⟨arr,fr',R,z2,_⟩:=DS C hk hl;rw[alg w l.b j arr e' fr' R]at hc;have hlt:=(δ.1 hc).1;have hno:¬arr.size≤j:=Ω
    have p:=Fk (P:=P) (a:=⟨l.b,j,none⟩) R;have hsh:w.shape? l.b=some (e',arr.size):=by simp[World.shape?,R]
    rw[ev];simp[Conv.unsafePointer,θ hs,θ ht,p,cellsIn,hsh,aH hz,hz,hno]
   ·cases f
  ·cases f;have ev:=kP r;refine ax C (v :=.pointer none) (hex ?_) Vp;rw[ev];simp[Conv.unsafePointer,θ hs,θ ht]
  ·cases f
 ·cases f
def ahH (hI:Inv B T φ h w){s t u:TypeId}(U:o.op = .convert s t x)(hs:P.underlying s=some .unsafePointer)(ht:P.underlying t=some (.pointer u))(p:au P u≠0)(hv:RTs φ J [a.eval x])(f:(afQ (ZP P u) J fr).run h=some (out,wr)):OkX P B T φ h w o a out wr:=by
 have hex:∀{v w'},(Conv.unsafePointer s t (a.eval x)).run P w = .ok v w'→(execOp a.eval o).run P w = .ok (.value v) w':=λC=>by unfold execOp;simp[U,convert,θ hs,θ ht,C]
 unfold afQ at f;split at f
 ·obtain⟨v,e1,C⟩:=hv.one;cases e1;split at f
  next k g j=>
   simp[Q.run]at f;split at f
   ·rename_i e s' el hk;cases hc:ZP P u e s' j with
    |false=>rw[hc]at f;cases f
    |true=>
     rw[hc,O']at f;cases f;obtain⟨l,hl,ev⟩:=iw C;refine ax hI (v :=.pointer (some ⟨l.b,j,none⟩)) (hex ?_) (by rw[←ev];exact C);obtain⟨arr,fr',z1,z2,z3,_,z5⟩:=DS hI hk hl;have hg0:g=0:=by
      have U:=hI.obj k;rw[hk]at U;obtain⟨_,_,_,h2,_⟩:=U;cases g with
      |zero=>rfl
      |succ g=>rw[h2 _ Ω]at hl;cases hl
     have hn:=z3 hg0;have hle:s'≤arr.size:=by rw[z2];exact Nat.le_mul_of_pos_left _ hn
     have R:liesAt P P.depth e (arr.size/P.cellsOf e) j u 1=true:=C7 _ _ _ _ _ (Nat.div_le_div_right hle) hc;have r:=Fk (P:=P) (a:=⟨l.b,j,none⟩) z1;have hsh:w.shape? l.b=some (e,arr.size):=by simp[World.shape?,z1]
     rw[ev];simp[Conv.unsafePointer,θ hs,θ ht,r,variablesAt,hsh,R,aH p,p]
   ·cases f
  ·cases f;have ev:=kP C;refine ax hI (v :=.pointer none) (hex ?_) Vp;rw[ev];simp[Conv.unsafePointer,θ hs,θ ht]
  ·cases f
 ·cases f
def Inv.frz (hI:Inv B T φ h w){len R:Nat}(hk:h k = .row e s el len R fz)(hl:φ.loc k g=some l)(p:Addr)(P:p.block=l.b)(n:Nat):Inv B T φ (upd h k (.row e s el len R .yes)) (w.freeze p n):=by
 have ho:=hI.obj k;rw[hk]at ho;obtain⟨h0,h1,hm,h2,h3⟩:=ho;obtain⟨arr0,fr0,y1,_⟩:=DS hI hk hl;have f:∀b,b≠l.b→(w.freeze p n).heap[b]? = w.heap[b]?:=λb j=>by
  unfold World.freeze;split
  ·rfl
  ·simp only[W_];rw[Θ (by rw[P];exact λe=>j e.symm)]
 have r:∀arr e fr,w.heap[l.b]? = some (.cells arr e fr)→∃C,(w.freeze p n).heap[l.b]? = some (.cells arr e C):=λarr e fr j=>by
  unfold World.freeze;split
  ·exact⟨fr,j⟩
  ·simp only[W_];rw[G' P,j];exact⟨_,rfl⟩
 have hfs:(w.freeze p n).os=w.os∧(w.freeze p n).tape=w.tape∧(w.freeze p n).output=w.output∧w.heap.size≤(w.freeze p n).heap.size∧dz w≤dz (w.freeze p n):=by
  unfold World.freeze;split
  ·exact⟨rfl,rfl,rfl,ζ _,ζ _⟩
  ·exact⟨rfl,rfl,rfl,Ψ,ζ _⟩
 obtain⟨f1,f2,f3,f4,f5⟩:=hfs;refine hI.turn (ψ:=φ) (Gx.le.refl φ) (λ_ _=>⟨λ_=>rfl,rfl,rfl⟩) (λU J x=>.inl ⟨U,J,x,rfl⟩) (λb j hne=>f b λe=>hne g l hl e.symm) (λU J x ob z1 z2=>?_) f1 f2 f3 f4 f5 ⟨h0,h1,hm,h2,λU hg1=>?_⟩
 ·by_cases j:J.b=l.b
  ·rw[j,y1]at z1;cases z1;cases z2
  ·rw[f _ j];exact z1
 ·obtain⟨J,q1,⟨q2,q3,arr,fr,q4,q5,q6,q7⟩,q8⟩:=h3 U hg1;refine⟨J,q1, ?_,q8⟩;by_cases j:J.b=l.b
  ·obtain⟨C,z⟩:=r arr e fr (by rw[←j];exact q4);exact⟨q2,q3,arr,C,by rw[j];exact z,q5,apj,q7⟩
  ·exact⟨q2,q3,arr,fr,by rw[f _ j];exact q4,q5,apj,q7⟩
def ahF (hI:Inv B T φ h w){y:Operand}{t t2:TypeId}(ho:o.op = .call cl)(hcl:cl.callee = .builtin .unsafeString)(hargs:cl.args = #[x,y])(hty:cl.argTypes = #[t,t2])(hu:P.underlying t=some (.pointer e))(hv:RTs φ J [a.eval x,a.eval y])(f:(afP e (UH P) J fr).run h=some (out,wr)):OkX P B T φ h w o a out wr:=by
 have hex:∀{v w'},(Builtin.unsafeString_ #[t,t2] o.type #[a.eval x,a.eval y]).run P w = .ok v w'→(execOp a.eval o).run P w = .ok (.value v) w':=λhr=>by unfold execOp;simp[ho,resolve,hcl,hargs,hty,invoke,builtin,hr]
 unfold afP at f;split at f
 ·obtain⟨v1,ws,e1,hr1,hr2⟩:=hv.cons;obtain⟨v2,e2,R⟩:=hr2.one;subst e2;simp at e1;obtain⟨e1,e2⟩:=e1;subst e1;subst e2;split at f
  ·cases f;refine ax hI (v :=.string .empty) (hex ?_) (yv rfl);rw[kP hr1,show a.eval y = .int .i64 0 from dF R];exact Lib.run_unsafeString_none w t t2 o.type none
  next k g off n=>
   obtain⟨l,hl,ev⟩:=iw hr1;split at f
   ·cases f;refine ax hI (v :=.string .empty) (hex ?_) (yv rfl);rw[ev,show a.eval y = .int .i64 0 from dF R];exact Lib.run_unsafeString_none w t t2 o.type _
   ·rename_i n;simp[Q.run]at f;split at f
    ·rename_i ls hls;split at f
     ·rename_i b hb;split at f
      ·rename_i e' el len gen fz hk;cases hc:(Nat.beq e e'&&Nat.beq off 0&&UH P e' len off (n+1))with
       |false=>rw[hc]at f;cases f
       |true=>
        rw[hc,O']at f;simp at hc;obtain⟨⟨rfl,rfl⟩,c3⟩:=hc;cases f;simp[UH,br]at c3;obtain⟨c3,c4⟩:=c3;obtain⟨q1,q2,vs,q3,q4⟩:=hI.rds hl hls;obtain⟨p1,p2⟩:=uY hb q3;obtain⟨arr,fr',z1,z2,z3,_,_⟩:=DS hI hk hl;have hsh:w.shape? l.b=some (e,arr.size):=by simp[World.shape?,z1]
        have p:b.length=n+1:=by
         have:vs.length=(n+1)*1:=by rw[bf q3,iP q2,q1]
         rw[p2]at this;simpa using this
        have r:∀(j:Nat) (x:UInt8),(b.map UInt8.ofNat)[j]? = some x→w.cell? ((⟨l.b,0,none⟩:Addr).add j)=some (.int .u8 x.toNat):=λj x hj=>by
         rw[Q_]at hj;simp at hj;obtain⟨c,hc,rfl⟩:=hj;have:=q4 j (.int .u8 (Int.ofNat c)) (by rw[p2,Q_,hc];rfl);rw[this];have hcm:c<256:=by have:=X'.1 p1 c (L? hc);exact cw.1 this
         have:(UInt8.ofNat c).toNat=c:=by simp;omega
         rw[this];rfl
        have hfit:n+1≤arr.size:=by
         have U:∃x,(b.map UInt8.ofNat)[n]? = some x:=by rw[Q_];exact⟨UInt8.ofNat b[n],by rw[ε Ω];rfl⟩
         obtain⟨x,hx⟩:=U;have:=r n x hx;rw[pE,b_,alg w l.b n arr e fr' z1]at this;have:=(δ.1 this).1;omega
        have hl32:len+2≤2^32:=by have ho:=hI.obj k;rw[hk]at ho;exact ho.2.1
        have C:=Lib.run_unsafeString_row (P:=P) w t t2 o.type e hu c3 l.b arr.size hsh (b.map UInt8.ofNat) (by intro e0;rw[List.map_eq_nil_iff]at e0;rw[e0]at p;simp at p) (by simpa[p]using hfit) (by simp[p];omega) r;refine jX (v:=rC b) (hex ?_) (Gx.le.refl φ) (hI.frz hk hl ⟨l.b,0,none⟩ rfl (b.map UInt8.ofNat).length) (yv p1);rw[ev,show a.eval y = .int .i64 ((n+1:Nat):Int) from dF R];rw[e_,p]at C;rw[e_,p];exact C
      ·cases f
     ·cases f
    ·cases f
  ·cases f
 ·cases f
end
variable [SymVal]
section
variable {P:Program}{B:Nat}{T:W0}{φ:Gx}{h:Pos→EO}{w:World}{o:Oper}{a:Act}
variable{J:List TV}{f:Pos}{out:TV}{wr:Option (Pos×EO)}{α:Type}{cl:Call}{k:K}{xs:List Operand}
def Ga (r:Inv B T φ h w){op:BinOp}{t ty:TypeId}{x y:Operand}(p:o.op = .binOp op t x y ty)(hv:RTs φ J [a.eval x,a.eval y])(g:(tw op J f).run h=some (out,wr)):OkX P B T φ h w o a out wr:=by
 unfold tw at g;split at g
 ·obtain⟨v1,ws,C,l,R⟩:=hv.cons;obtain⟨v2,e2,j⟩:=R.one;subst e2;simp at C;obtain⟨C,e2⟩:=C;subst C;subst e2;split at g
  ·split at g
   ·rename_i k m k' n;have h1:=dF l;have h2:=dF j;split at g
    ·exact aaX r p h1 h2 g
    ·exact aaX r p h1 h2 g
    ·cases U:kq k k' with
     |false=>rw[U]at g;cases g
     |true =>rw[U,O']at g;have:=JG U;subst this;exact ae0 r p h1 h2 g
   ·obtain⟨q1,q2⟩:=pl l;obtain⟨q3,q4⟩:=pl j;exact aeZ r p q1 q3 q2 q4 g
   ·cases g
  ·cases g
 ·cases g
def LT (p:Inv B T φ h w){v:Value}(l:(execOp a.eval o).run P w = .ok (.value v) w)(j:RTs φ J [v])(g:(Uc J f).run h=some (out,wr)):OkX P B T φ h w o a out wr:=by
 unfold Uc at g;split at g
 ·cases g;obtain⟨u,e,r⟩:=j.one;cases e;exact ax p l r
 ·cases g
def wZ {l:Array α}{x y:α}(h:l.toList=[x,y]):l = #[x,y]:=E_ h
def M0 {l:Array α}{x:α}(h:l.toList=[x]):l = #[x]:=E_ h
def SX (U:Inv B T φ h w){b:Builtin}(R:o.op = .call cl)(l:cl.callee = .builtin b)(g:HM P cl b=some (k,xs))(hf:kAl k=true→h f = .none)(r:RTs φ J (xs.map a.eval))(C:(dU k J f).run h=some (out,wr)):OkX P B T φ h w o a out wr:=by
 unfold HM at g;split at g
 next x t j p=>
  have j:=M0 j;have p:=M0 p;split at g
  next hu=>cases g;exact aeQ (f:=f) U R l j p hu r C
  next hu=>cases g;exact aeS (f:=f) U R l j p hu r C
  next hu=>cases g;exact aeR (f:=f) U R l j p hu r C
  ·cases g
 next s x t u j p=>
  have j:=wZ j;have p:=wZ p;split at g
  next e hu=>
   split at g
   ·rename_i z hz;split at g
    ·cases g
    ·rename_i hn;simp[alz]at hn;split at g
     next e2 hu2=>cases g;exact aa1 (f:=f) U R l j p hu hz hn.2 hn.1 (.inl ⟨rfl,e2,hu2⟩) (hf rfl) r C
     ·rename_i hu2;split at g
      next hs=>cases g;exact aa1 (f:=f) U R l j p hu hz hn.2 hn.1 (.inr ⟨rfl,hu2,hs⟩) (hf rfl) r C
      ·cases g
     ·cases g
   ·cases g
  ·cases g
 next x j=>have j:=M0 j;cases g;exact ahG (fr:=f) U R l j r C
 next x y t t2 j p=>
  have j:=wZ j;have p:=wZ p;split at g
  next e hu=>
   split at g
   ·cases g;exact ahF (fr:=f) U R l j p hu r C
   ·cases g
  ·cases g
 next x y j=>have j:=wZ j;cases g;exact agT (big:=true) (f:=f) U R l j r C
 next x y j=>have j:=wZ j;cases g;exact agT (big:=false) (f:=f) U R l j r C
 ·cases g
def Pd (hI:Inv B T φ h w){fi:FuncId}{fn:Func}(R:o.op = .call cl)(l:cl.callee = .value (.func fi))(j:P.funcs[fi]? = some fn)(U:fn.body=none)(g:aiU fn P=some k)(hf:kAl k=true→h f = .none)(r:RTs φ J (cl.args.toList.map a.eval))(C:(dU k J f).run h=some (out,wr)):OkX P B T φ h w o a out wr:=by
 unfold aiU at g;split at g
 ·cases g
 next p=>
  have p:Extern.findNext fn=none:=by simpa using p
  split at g
  next he=>cases g;exact O9 (fr:=f) hI R l j U p he r C
  ·split at g
   next he=>cases g;exact ahR (fr:=f) hI R l j U p he r C
   ·cases g
def P0 {o:Option α}(h:¬o.isSome=true):o=none:=by cases o <;> simp_all
def adg {Gl:Glt}(hG:sZ Gl P B T)(U:Inv B T φ h w)(j:cK P Gl o.op=some (k,xs))(hf:kAl k=true→h f = .none)(hv:RTs φ J (xs.map a.eval))(R:(dU k J f).run h=some (out,wr)):OkX P B T φ h w o a out wr:=by
 have C:∀{k':K} {xs':List Operand},some (k',xs')=some (k,xs)→k'=k∧xs'=xs:=λh=>by simp at h;exact h
 cases p:o.op <;> rw[p]at j <;> simp only[cK]at j <;> first|(cases j;done)|skip
 case move x=>obtain⟨rfl,rfl⟩:=C j;exact LT (f:=f) U (by unfold execOp;simp[p]) hv R
 case assign x=>obtain⟨rfl,rfl⟩:=C j;exact LT (f:=f) U (by unfold execOp;simp[p]) hv R
 case pick c x y=>
  obtain⟨rfl,rfl⟩:=C j;simp[dU,VW]at R;split at R
  ·obtain⟨v1,ws,e1,hr1,hr2⟩:=hv.cons;obtain⟨v2,ws2,e2,hr3,hr4⟩:=hr2.cons;obtain⟨v3,e3,hr5⟩:=hr4.one;subst e3;subst e2;simp at e1;obtain⟨e1,e2,e3⟩:=e1;subst e1;subst e2;subst e3;split at R
   next b=>cases R;cases b <;> exact LS (P:=P) U p hr1 hr3 hr5
   ·cases R
  ·cases R
 case alloc e=>
  split at j
  next z hz=>
   split at j
   ·cases j
   next hs=>obtain⟨rfl,rfl⟩:=C j;exact Gc (f:=f) U p hz hs (hf rfl) R
  ·cases j
 case box e x=>
  split at j
  ·cases j
  next hs=>obtain⟨rfl,rfl⟩:=C j;exact SY (f:=f) U p hs (hf rfl) hv R
 case build t parts=>
  split at j
  next z fs hz hu=>
   split at j
   ·rename_i ha;split at j
    next ps hp=>obtain⟨rfl,rfl⟩:=C j;exact Ae (f:=f) U p hz (.inl ⟨fs,hu,ha,hp⟩) hv R
    ·cases j
   ·cases j
  next z n e hz hu=>
   split at j
   ·cases j
   next hs=>obtain⟨rfl,rfl⟩:=C j;exact Ae (f:=f) U p hz (.inr ⟨n,e,hu,hs,rfl⟩) hv R
  ·cases j
 case buildSlice t len parts=>
  split at j
  next e hu=>
   split at j
   ·rename_i z hz;split at j
    ·cases j
    next hn=>simp[alz]at hn;obtain⟨rfl,rfl⟩:=C j;exact ahP (f:=f) U p hu hz hn.2 hn.1 (hf rfl) hv R
   ·cases j
  ·cases j
 case load t ad=>
  split at j
  next g=>
   split at j
   next v hg=>obtain⟨rfl,rfl⟩:=C j;refine LT (f:=f) U (v:=v) ?_ hv R;have:=hG.1 g t _ hg w U.below;unfold execOp;simp[p,Act.eval,υ,this,j_,gv]
   ·cases j
  ·split at j
   ·cases j
   ·rename_i hs;split at j
    next b hb=>obtain⟨rfl,rfl⟩:=C j;exact aeP (f:=f) U p hs hb hv R
    ·cases j
 case store t ad x=>
  split at j
  ·cases j
  next hs=>obtain⟨rfl,rfl⟩:=C j;exact F8 (f:=f) U p hs hv R
 case nilCheck x=>obtain⟨rfl,rfl⟩:=C j;exact XS (f:=f) U p hv R
 case binOp op t x y ty=>
  have eq:∀{neg:Bool},o.op = .binOp (Ba neg) t x y ty→(∀k,P.underlying t≠some (.int k))→P.underlying t≠some .string→(match Hl P t (isC x||isC y)with|some q=>some (K.eql neg q,[x,y])|none=>none)=some (k,xs)→OkX P B T φ h w o a out wr:=λ{neg} ho h1 h2 j=>by
   split at j
   next q hq0=>obtain⟨rfl,rfl⟩:=C j;exact ahU (f:=f) U ho h1 h2 hq0 hv R
   ·cases j
  split at j
  ·split at j
   ·obtain⟨rfl,rfl⟩:=C j;exact Ga (f:=f) U p hv R
   ·obtain⟨rfl,rfl⟩:=C j;exact Ga (f:=f) U p hv R
   next h1 h2=>exact eq (neg:=false) p (λk e=>h1 k e) h2 j
  ·split at j
   ·obtain⟨rfl,rfl⟩:=C j;exact Ga (f:=f) U p hv R
   ·obtain⟨rfl,rfl⟩:=C j;exact Ga (f:=f) U p hv R
   next h1 h2=>exact eq (neg:=true) p (λk e=>h1 k e) h2 j
  ·obtain⟨rfl,rfl⟩:=C j;exact Ga (f:=f) U p hv R
 case unOp op t x=>obtain⟨rfl,rfl⟩:=C j;exact ajl (f:=f) U p hv R
 case convert s t x=>
  split at j
  next hs ht=>obtain⟨rfl,rfl⟩:=C j;exact aeX (f:=f) U p hs ht hv R
  next e hs ht=>
   split at j
   ·cases j
   next hz=>obtain⟨rfl,rfl⟩:=C j;exact ahJ (fr:=f) U p hs ht hz hv R
  next u hs ht=>
   split at j
   ·cases j
   next hz=>obtain⟨rfl,rfl⟩:=C j;exact ahH (fr:=f) U p hs ht hz hv R
  next e hs ht=>
   split at j
   next he=>rw[G' rfl]at j;obtain⟨rfl,rfl⟩:=C j;exact ahW (f:=f) U p hs ht he hv R
   ·rw[Θ Ϛ]at j;cases j
  ·cases j
 case makeFunc fn first caps=>obtain⟨rfl,rfl⟩:=C j;exact ahO (f:=f) U p (hf rfl) hv R
 case makeMap t r=>
  split at j
  next k e hu=>obtain⟨rfl,rfl⟩:=C j;exact ahN (f:=f) U p hu (hf rfl) hv R
  ·cases j
 case makeSlice t l c=>
  split at j
  next e hu=>
   split at j
   ·rename_i z hz;split at j
    ·cases j
    next hn=>simp[alz]at hn;obtain⟨rfl,rfl⟩:=C j;exact ahM (f:=f) U p hu hz hn.2 hn.1 (hf rfl) hv R
   ·cases j
  ·cases j
 case slice t x lo hi mx=>
  split at j
  next hu=>
   split at j
   ·cases j
   next hm=>have:=P0 hm;subst this;obtain⟨rfl,rfl⟩:=C j;exact aeI (f:=f) U p hu hv R
  next e hu=>
   split at j
   ·cases j
   next hz=>obtain⟨rfl,rfl⟩:=C j;exact aeJ (f:=f) U p hu hz (hf rfl) hv R
  ·cases j
 case fieldAddr s x n=>
  split at j
  next fs hu=>
   split at j
   ·rename_i fd hn;split at j
    ·cases j
    next hz=>obtain⟨rfl,rfl⟩:=C j;exact aeW (f:=f) U p hu hn hz hv R
   ·cases j
  ·cases j
 case field s x n=>
  split at j
  next fs hu=>
   split at j
   ·rename_i fd hn;split at j
    ·cases j
    ·rename_i hz;split at j
     next b hb=>obtain⟨rfl,rfl⟩:=C j;exact ahS (f:=f) U p hu hn hz hb hv R
     ·cases j
   ·cases j
  ·cases j
 case indexAddr t x i=>
  split at j
  next e hu=>
   split at j
   ·cases j
   next hz=>obtain⟨rfl,rfl⟩:=C j;exact aeU (f:=f) U p hu hz hv R
  next n e hu=>
   split at j
   ·cases j
   next hz=>obtain⟨rfl,rfl⟩:=C j;exact aeV (f:=f) U p hu hz hv R
  ·cases j
 case index t x i=>
  split at j
  next hu=>obtain⟨rfl,rfl⟩:=C j;exact aeT (f:=f) U p hu hv R
  ·cases j
 case lookup t x i ok=>
  split at j
  next kt e hu=>
   split at j
   next q z hk hz=>obtain⟨rfl,rfl⟩:=C j;exact aeO (f:=f) U p hu hk hz hv R
   ·cases j
  ·cases j
 case mapUpdate t m kk x=>
  split at j
  next kt e hu=>
   split at j
   next q hk=>obtain⟨rfl,rfl⟩:=C j;exact ahI (f:=f) U (.inl p) hu hk hv R
   ·cases j
  ·cases j
 case mapEntry t m kk=>
  split at j
  next kt e hu=>
   split at j
   next q z hk hz=>obtain⟨rfl,rfl⟩:=C j;exact aeN (f:=f) U p hu hk hz hv R
   ·cases j
  ·cases j
 case entryStore t m s x=>obtain⟨rfl,rfl⟩:=C j;exact aeM (f:=f) U p hv R
 case range t x=>
  split at j
  next k e hu=>obtain⟨rfl,rfl⟩:=C j;exact aeK (f:=f) U p hu (hf rfl) hv R
  ·cases j
 case entry it=>obtain⟨rfl,rfl⟩:=C j;exact ahV (f:=f) U p hv R
 case extract x i=>obtain⟨rfl,rfl⟩:=C j;exact ahT (f:=f) U p hv R
 case call c=>
  split at j
  next b hcl=>exact SX (f:=f) U p hcl j hf hv R
  next fi hcl=>
   split at j
   ·rename_i fn hfn;split at j
    ·cases j
    ·rename_i hb;split at j
     next k' hk=>obtain⟨rfl,rfl⟩:=C j;exact Pd (f:=f) U p hcl hfn hb hk hf hv R
     ·cases j
   ·cases j
  ·cases j
end
variable [SymVal]
def RF (f:Option Nat):Fence:={ Fence.wide with round:=f }
variable{P:Program}{ro:Option Nat}{n B:Nat}{w:World}{o:Oper}{a:Act}{h:Pos→EO}{W:W0}{φ ψ:Gx}{e:Env}
def Eo {f:FuncId}{args:Array Value}{R:Ending→World→Prop}(h:Calls P f args w R):CallsIn (RF ro) n P f args w R:=by have g:CallsIn Fence.wide n P f args w R:=callsIn_wide.2 h;exact g
def fE (ro:Option Nat)(o:Oper):Prop:=ro=none∨∀c,o.op ≠ .defer c
def xH {K:Act→World→Prop}{Q:Exit→Act→World→Prop}(g:fE ro o)(h:o.wp P a w K Q):o.wpIn (RF ro) n P a w K Q:=by
 refine⟨λ_ _=>trivial, ?_⟩;have e:o.semAt (RF ro).round a.eval=execOp a.eval o:=by
  obtain rfl|g:=g
  ·rfl
  ·exact Oper.semAt_eq _ _ _ g
 rw[e];unfold Oper.wp at h;generalize (execOp a.eval o).run P w=r at h⊢;cases r with
 |ok x j=>
  cases x <;> simp[Oper.upon,Oper.uponIn]at h⊢;case value=>exact h
  case skip=>exact h
  case defer=>exact h
  case enter=>exact⟨(λq=>by cases q),Eo h⟩
  case row =>refine⟨(λq=>by cases q),λc p _=>?_⟩;obtain⟨v,f,r1,l⟩:=h c p;exact⟨v,f,r1,stepsIn_wide.2 l⟩
 |halt x j=>cases x <;> simp[Oper.upon,Oper.uponIn]at h⊢ <;> exact h
def Nn (h f:Pos→EO):Prop:=∀k,i4 (f k)=true→i4 (h k)=true
def cj (B:Nat)(φ:Gx)(h:Pos→EO)(w:World)(ψ:Gx)(f:Pos→EO)(g:World):Prop:=φ.le ψ∧(∀W,Inv B W φ h w→Inv B W ψ f g)∧Nn h f
def cj.refl {B:Nat}{φ:Gx}{h:Pos→EO}{w:World}:cj B φ h w φ h w:=⟨Gx.le.refl φ,λ_ h=>h,λ_ h=>h⟩
def Q9 {o:EO}(h:i4 o=true):Dd o=true∨o = .none:=by cases o <;> first|exact .inl rfl|exact .inr rfl|cases h
def ZM {wr:Option (Pos×EO)}(j:∀k g,wr=some (k,g)→i4 g=false):Nn h (tG h wr):=λk f=>by
 cases wr with
 |none=>exact f
 |some p=>
  obtain⟨l,g⟩:=p;simp[tG,upd]at f;split at f
  ·rw[j l g rfl]at f;cases f
  ·exact f
def cj.trans {B:Nat}{j g f:Gx}{J C r:Pos→EO}{w1 p l:World}(a:cj B j J w1 g C p)(b:cj B g C p f r l):cj B j J w1 f r l:=⟨a.1.trans b.1,λW h=>b.2.1 W (a.2.1 W h),λk P=>a.2.2 k (b.2.2 k P)⟩
def Inv.self (f:Inv B W φ h w):Inv B ⟨w,φ⟩ φ h w :=
 ⟨Below.refl _ _,Kp.refl _,Gx.le.refl _,λ_ _=>⟨λ_=>rfl,rfl,rfl,λ_ _ _=>rfl⟩,f.size,f.obj,f.sep⟩
def vK {U :Pos→EO}{w' :World}(C:φ.le ψ)(f:Inv B ⟨w,φ⟩ ψ U w')(r:Nn h U):cj B φ h w ψ U w' :=
 ⟨C,(λW j=>⟨j.below.trans f.below,j.kp.trans f.kp,j.le.trans C,(λk hk=>by
  obtain⟨R,a2,a3,a4⟩:=f.res k hk;rcases Q9 (r k (XE hk))with h1|h1
  ·obtain⟨b1,b2,P,b4⟩:=j.res k h1;exact⟨λg=>(R g).trans (b1 g),a2.trans b2,a3.trans P,λg l J=>(a4 g l J).trans (b4 g l (by rw[←J];exact(R g).symm))⟩
  ·obtain⟨b1,b2,P⟩:=j.free h1;have T:∀{α:Type} {x y:Option α},y=none→(∀v,x=some v→y=some v)→x=none:=λ{α x y} hy hx=>by
    cases x with
    |none=>rfl
    |some v=>rw[hx v rfl]at hy;cases hy
   refine⟨λg=>(R g).trans ((b1 g).trans (T (b1 g) λv p=>j.le.loc k g v p).symm),a2.trans (b2.trans (T b2 λv p=>j.le.val k v p).symm),a3.trans (P.trans (T P λv p=>j.le.mu k v p).symm),λg l J=>?_⟩;rw[R g,show(W0.φ ⟨w,φ⟩).loc k g=φ.loc k g from rfl,b1 g]at J;cases J),f.size,f.obj,f.sep⟩),r⟩
def ER (φ:Gx)(e:Env)(f:Array Value):Prop:=∀t,t+2≤2^64→RT φ (e.get .unk (pos t)) (f.getD t undef)
def ER.mono {φ ψ:Gx}(h:φ.le ψ){e:Env}{f:Array Value}(j:ER φ e f):ER ψ e f:=λt g=>(j t g).mono h
def aeA {t f:Nat}(h:t+2≤2^64)(l:f+2≤2^64)(e:pos t=pos f):t=f:=by have g:=ug 64 t h;have j:=ug 64 f l;unfold pos at e;rw[e,j]at g;exact g.symm
def ER.set {φ:Gx}{e:Env}{tmps:Array Value}(r:ER φ e tmps){d:Nat}(p:d<tmps.size)(g:d+2≤2^64){out:TV}{v:Value}(l:RT φ out v):ER φ (PM.set .unk (pos d) e out) (tmps.setIfInBounds d v):=λt j=>by
 rw[PM.get_set];simp[upd,u_,alP];by_cases f:d=t
 ·subst f;rw[G' rfl,G' rfl,G' p];exact l
 ·rw[Θ (λe=>f (aeA g j e)),Θ f];have:=r t j;rw[u_]at this;exact this
def nk (j:ER φ e a.tmps)(x:Operand):RT φ (bn e (oh x)) (a.eval x):=by
 cases x with
 |tmp t=>
  simp only[oh];split
  next h=>exact j t h
  ·exact trivial
 |const v=>
  simp[oh,bn,aja];split
  next p hp=>exact FK hp φ
  ·exact trivial
 |global g=>exact rfl
 |func f=>exact rfl
def uT {φ:Gx}{e:Env}{a:Act}(g:ER φ e a.tmps):∀f:List Operand,RTs φ (aX e (f.map oh)) (f.map a.eval)
 |[]=>trivial
 |x::f=>⟨nk g x,uT g f⟩
def dZ (p:ER φ e a.tmps){l:Nat}(f:a.tmps.size=l){d:Option Tmp}{j:Option Pos}(g:Um l d=some j){out:TV}{v:Value}(r:RT φ out v):ER φ (aZ e j out) (a.put d v).tmps∧(a.put d v).tmps.size=l:=by
 unfold Um at g;split at g
 ·cases g;exact⟨p,f⟩
 next d=>
  split at g
  next h=>cases g;exact⟨p.set (by rw[f];exact h.1) h.2 r,by simp[Act.put,f]⟩
  ·cases g
def tH:RT φ (.tup []) undef:=⟨[],rfl,rfl⟩
def G8 (hE:ER φ e a.tmps){p:Array Oper}{g:Option (Pos×Bool)}(r:Cz p.toList o.guard=some g){b:Bool}(C:gd e g=some b):Region.wanted o (yielded p a.tmps)=b:=by
 unfold Cz at r;split at r
 next hgd=>cases r;cases C;simp[Region.wanted,hgd]
 next j want hgd=>
  split at r
  next d R=>
   split at r
   ·rename_i U;cases r;have f:=hE d U;have P:yielded p a.tmps j=match a.tmps[d]? with|some (.bool b)=>some b|_=>none:=by
     have R:(p[j]?).bind (·.dst)=some d:=by simpa using R
     unfold yielded;rw[R];rfl
    simp[Region.wanted,hgd,P];simp[gd]at C;rw[u_]at f;split at C
    ·rename_i c T;simp at C;rw[T]at f;have f:=Jd f;have:a.tmps[d]? = some (.bool c):=by
      cases J:a.tmps[d]? with
      |none=>rw[J]at f;cases f
      |some x=>rw[J]at f;rw[show x=Value.bool c from f]
     rw[this];subst C;cases want <;> cases c <;> rfl
    ·rename_i l T;simp at C;rw[T]at f;obtain⟨vs,_,f⟩:=f;subst C;cases J:a.tmps[d]? with
     |none=>rfl
     |some x =>rw[J]at f;rw[show x=Value.tuple vs.toArray from f];rfl
    ·cases C
   ·cases r
  ·cases r
def sZ.more {p:Glt}(h:sZ p P B W){r:Pos→EO}(l:Inv B W φ r w):sZ p P B ⟨w,ψ⟩:=⟨λg t v C f j=>h.1 g t v C f (l.below.trans j),λf j=>h.2 f (l.below.trans j)⟩
structure Lq where
 j:Pos
 l:Nat
 lrec:Loop
 env:Env
 tmps:Array Value
def Ctx (f:List Lq)(φ:Gx)(w:World):Prop:=∀q∈f,(∃l,φ.loc q.j 0=some l∧l.b=q.l)∧w.heap[q.l]? = some (.loop q.lrec)∧ER φ q.env q.tmps
def Ctx.more {g:List Lq}{R :Pos→EO}{j :World}(r:Ctx g φ w)(C:Inv B W φ h w)(f:cj B φ h w ψ R j):Ctx g ψ j:=λq p=>by obtain⟨⟨l,P,J⟩,h3,h4⟩:=r q p;exact⟨⟨l,f.1.loc _ _ _ P,J⟩,(f.2.1 _ C.self).kp.keep _ _ h3 rfl,h4.mono f.1⟩
def bx (P:Program)(f:FuncId):Prop:=∃fn,P.funcs[f]? = some fn∧fn.body.isSome=true∧(fn.name == "runtime.NumGoroutine")=false
def KG (P:Program)(t:Tgt)(φ:Gx)(w:World)(r:List Value)(R:Ending→World→Prop):Prop:=match t with
 |.fn f=>bx P f∧Calls P f r.toArray w R
 |.yld j=>∀l,φ.loc j 0=some l→∀(ro:Option Nat) (n:Nat),∃f g assign p,(Instr.yield l.b r.toArray).run P w = .ok (.round l.b f g assign p) w∧RoundIn (RF ro) n P l.b f g assign p w R
def IE (B:Nat)(φ:Gx)(h:Pos→EO)(w:World)(g:Pos→EO)(out:TV):Ending→World→Prop:=λe f=>∃v ψ,e = .returned v∧cj B φ h w ψ g f∧RT ψ out v
def ta (P:Program)(p:Glt)(B:Nat)(call:Ck)(j:List Lq):Prop:=∀b t args d n v g l,call b t args d n = .ok v g l→∀W φ w,sZ p P B W→Inv B W φ (HP.ov b d).get w→∀f,RTs φ args f→Ctx j φ w→KG P t φ w f (IE B φ (HP.ov b d).get w (HP.ov b g).get v)
def Rp (P:Program)(C:Glt)(B:Nat)(p:Yk)(l:List Lq):Prop:=∀b j args d n v g r,p b j args d n = .ok v g r→∀W φ w,sZ C P B W→Inv B W φ (HP.ov b d).get w→∀f,RTs φ args f→Ctx l φ w→KG P (.yld j) φ w f (IE B φ (HP.ov b d).get w (HP.ov b g).get v)
structure CkOk (P:Program)(Gl:Glt)(B:Nat)(ck:Callk)(Γ:List Lq):Prop where
 call:ta P Gl B ck.call Γ
 iter:∀yk' Γ',Rp P Gl B yk' Γ'→ta P Gl B (ck.iter yk') Γ'
section
variable {P:Program}{Gl:Glt}{B:Nat}{W:W0}{φ:Gx}{h:Pos→EO}{w:World}{o:Oper}{a:Act}{e:Env}{nt:Nat}{ops:Array Oper}{Γ:List Lq}
variable{fo:FO}{al:Bool}{ro:Option Nat}{n i:Nat}{out:TV}{wr:Option (Pos×EO)}{x:Src}{dst:Option Pos}{args:List Src}{g:Option (Pos×Bool)}{t:Tgt}{vs:List TV}
def Ul (f:cOp P Gl nt ops.toList o = .op fo al):∃dst j,Um nt o.dst=some dst∧Cz ops.toList o.guard=some fo.guard∧cK P Gl o.op=some (fo.k,j)∧fo.args=j.map oh∧fo.dst=dst∧al=kAl fo.k:=by
 unfold cOp at f;split at f
 ·cases f
 next dst r=>
  split at f
  ·cases f
  next g p=>
   split at f
   next k j l=>injection f with h1 h2;subst h1;subst h2;exact⟨dst,j,r,p,l,rfl,rfl,rfl⟩
   ·split at f
    ·split at f <;> cases f
    ·split at f <;> cases f
    ·cases f
def O6 (hi:ops[i]? = some o)(hc:cOp P Gl nt ops.toList o = .op fo al)(U:Inv B W φ h w)(hG:sZ Gl P B W)(hE:ER φ e a.tmps)(p:fE ro o){f:Pos}(hf:al=true→h f = .none)(g:stepF e h f fo=some (out,wr))
  {Q:Exit→Act→World→Prop} {K:Act→World→Prop} (T:∀ψ v j,cj B φ h w ψ (tG h wr) j→RT ψ out v→K (a.put o.dst v) j):wpOpIn (RF ro) n P ops Q i K a w:=by
 obtain⟨dst,xs,_,hg,hk,l,_,C⟩:=Ul hc;unfold wpOpIn;simp[hi];unfold stepF at g;split at g
 next b hb=>
  rw[G8 hE hg hb];cases b with
  |false =>cases g;simp;exact⟨λ_ _=>trivial,T φ undef w cj.refl tH⟩
  |true =>simp;refine xH p ?_;have R:=uT hE xs;rw[←l]at R;obtain⟨h1,h2⟩:=adg (hG.more U (ψ:=φ)) U.self hk (λh'=>hf (by rw[C,h'])) R g;refine h1 K Q λv ψ j r J hr=>T ψ v j (vK r J (ZM h2)) hr
 ·cases g
def MX (f:cOp P Gl nt ops.toList o = .nxt x dst):∃j,o.op = .next j false∧x=oh j∧Um nt o.dst=some dst∧o.guard=none:=by
 unfold cOp at f;split at f
 ·cases f
 next dst' p=>
  split at f
  ·cases f
  next g hg=>
   split at f
   ·cases f
   ·split at f
    ·split at f <;> cases f
    ·rename_i j l;split at f
     ·injection f with h1 h2;subst h1;subst h2;refine⟨j,l,rfl,p, ?_⟩;unfold Cz at hg;split at hg
      ·assumption
      ·split at hg
       ·split at hg
        ·cases hg
        ·cases hg
       ·cases hg
     ·cases f
    ·cases f
def Pm {h:Pos→EO}{t:TV}{k:Pos}{j:EO}(f:Gq h t=some (out,some (k,j))):i4 j=false:=by
 unfold Gq at f;split at f
 ·split at f
  ·simp only[ι,I']at f;cases f.2
  next m since seen sp hk=>
   split at f
   ·rename_i l clock r;split at f
    ·cases g:(seen.isEmpty||l.isEmpty||l.any (λe=>Nat.blt e.born sp))with
     |false=>rw[g]at f;cases f
     |true=>rw[g]at f;simp only[O',ι,I']at f;cases f.2
    ·rename_i x p;cases g:(Nat.blt x.born since&&Nat.blt x.born sp)with
     |false=>rw[g]at f;cases f
     |true =>rw[g]at f;cases f;rfl
    ·cases f
   ·cases f
  ·cases f
 ·cases f
def XW (R:ops[i]? = some o)(U:cOp P Gl nt ops.toList o = .nxt x dst)(hI:Inv B W φ h w)(hE:ER φ e a.tmps)(j:fE ro o)(r:Gq h (bn e x)=some (out,wr))
  {Q:Exit→Act→World→Prop} {K:Act→World→Prop} (hK:∀ψ v f,cj B φ h w ψ (tG h wr) f→RT ψ out v→K (a.put o.dst v) f):wpOpIn (RF ro) n P ops Q i K a w:=by
 obtain⟨C,g,rfl,_,T⟩:=MX U;unfold wpOpIn;simp[R];rw[G' (by simp[Region.wanted,T])];refine xH j ?_;refine(aeL hI.self g (nk hE C) r).1 K Q λv ψ f l p J=>hK ψ v f (vK l p (ZM λk o' e=>by subst e;exact Pm r)) J
def Bp (j:cOp P Gl nt ops.toList o = .call args dst g):∃cl f,o.op = .call cl∧cl.callee = .value f∧args=(f::cl.args.toList).map oh∧Um nt o.dst=some dst∧Cz ops.toList o.guard=some g:=by
 unfold cOp at j;split at j
 ·cases j
 next dst' C=>
  split at j
  ·cases j
  next g' r=>
   split at j
   ·cases j
   ·split at j
    ·rename_i cl l;split at j
     next f p=>injection j with h1 h2 h3;subst h1;subst h2;subst h3;exact⟨cl,f,l,p,Ψ,C,r⟩
     ·cases j
    ·split at j <;> cases j
    ·cases j
def Bb (hI:Inv B W φ h w){args:List TV}(R:cH h args=some (t,vs)){us:List Value}(hr:RTs φ args us):∃f U,us=f::U∧match t with
  |.fn g=>∃first J,f = .func (.func g) first J∧RTs φ vs (first.toList++U++J.toList)
  |.yld j=>∃l,φ.loc j 0=some l∧f = .func (.yield l.b) #[] #[]∧RTs φ vs U:=by
 unfold cH at R;split at R
 next f r=>cases R;obtain⟨v,ws,rfl,p,T⟩:=hr.cons;have p:some (Value.func (.func f) #[] #[])=some v:=p;injection p with p;exact⟨v,ws,rfl, #[], #[],p.symm,by simpa using T⟩
 next k r=>
  obtain⟨v,ws,rfl,p,T⟩:=hr.cons;have P:=hI.obj k;have p:den φ (.clo k)=some v:=p;simp only at R;split at R
  next f first J hk=>
   cases R;rw[hk]at P;obtain⟨_,A,C,q1,q2,q3⟩:=P;simp[den,q3]at p;exact⟨v,ws,rfl,A.toArray,C.toArray,p.symm,by simpa using((M9 q1).append T).append (M9 q2)⟩
  next hk=>cases R;rw[hk]at P;obtain⟨_,l,q1,_,q3,_⟩:=P;simp[den,q3]at p;exact⟨v,ws,rfl,l,q1,p.symm,T⟩
  ·cases R
 ·cases R
def HK (hi:ops[i]? = some o)(hc:cOp P Gl nt ops.toList o = .call args dst g)(hgd:gd e g=some true)(hI:Inv B W φ h w)(hE:ER φ e a.tmps)(hnd:fE ro o)(he:cH h (aX e args)=some (t,vs)){h':Pos→EO}
  (hck:∀us,RTs φ vs us→KG P t φ w us (IE B φ h w h' out)) {Q:Exit→Act→World→Prop} {K:Act→World→Prop} (hK:∀ψ v w',cj B φ h w ψ h' w'→RT ψ out v→K (a.put o.dst v) w'):wpOpIn (RF ro) n P ops Q i K a w:=by
 obtain⟨cl,f,hop,hcl,rfl,_,hg⟩:=Bp hc;unfold wpOpIn;simp[hi];rw[G8 hE hg hgd,G' rfl];obtain⟨fv,xs,hus,ht⟩:=Bb hI he (uT hE (f::cl.args.toList));simp at hus;obtain⟨hf,hxs⟩:=hus;have post:∀e w',IE B φ h w h' out e w'→∃v,e = .returned v∧K (a.put o.dst v) w':=λe w' hr=>by obtain⟨v,ψ,h1,h2,h3⟩:=hr;exact⟨v,h1,hK ψ v w' h2 h3⟩
 cases t with
 |fn f'=>
  obtain⟨first,caps,h1,h2⟩:=ht;obtain⟨⟨fn,f1,f2,f3⟩,hcalls⟩:=hck _ h2;have hbody:¬fn.body=none:=by cases hb:fn.body <;> simp_all
  have f3:¬fn.name = "runtime.NumGoroutine":=by simpa using f3
  have hrun:(execOp a.eval o).run P w = .ok (.enter f' (first.toList++xs++caps.toList).toArray) w:=by
   have e2:first++cl.args.map a.eval++caps=(first.toList++xs++caps.toList).toArray:=E_ (by simp[hxs])
   unfold execOp;simp[hop,resolve,hcl,hf,h1,Deferred.ofValue,υ,j_,invoke,callFunc,h?,f1,e2];simp[f3,hbody]
  refine xH hnd ?_;unfold Oper.wp;rw[hrun];refine hcalls.mono ?_;intro e w' hr;obtain⟨v,rfl,hk⟩:=post e w' hr;exact hk
 |yld j=>
  obtain⟨l,h1,h2,h3⟩:=ht;obtain⟨f',tmps,assign,body,hy,hround⟩:=hck _ h3 l h1 ro (n-1);have hrun:(execOp a.eval o).run P w = .ok (.round l.b f' tmps assign body) w:=by have e2:cl.args.map a.eval=xs.toArray:=E_ (by simp[hxs]);unfold execOp;simp[hop,resolve,hcl,hf,h2,Deferred.ofValue,υ,j_,invoke,e2,hy]
  refine⟨λ_ _=>trivial, ?_⟩;have es:o.semAt (RF ro).round a.eval=execOp a.eval o:=by
   obtain rfl|hd:=hnd
   ·rfl
   ·exact Oper.semAt_eq _ _ _ hd
  rw[es,hrun,Oper.uponIn_round];refine⟨(λq=>by cases q),hround.mono ?_⟩;intro e w' hr;obtain⟨v,rfl,hk⟩:=post e w' hr;exact hk
def Fb (p:ops[i]? = some o)(J:cOp P Gl nt ops.toList o = .call args dst g)(j:gd e g=some false)(T:ER φ e a.tmps)
  {Q:Exit→Act→World→Prop} {K:Act→World→Prop} (R:K (a.put o.dst undef) w):wpOpIn (RF ro) n P ops Q i K a w:=by
 obtain⟨cl,f,l,C,rfl,_,r⟩:=Bp J;unfold wpOpIn;simp[p];rw[G8 T r j];simp;exact⟨λ_ _=>trivial,R⟩
end
variable [SymVal]
structure Rl (B lo:Nat)(U:Gx)(h0:Pos→EO)(T:World)(nt:Nat)(e:Env)(h:Pos→EO)(a:Act)(w:World):Prop where
 ex:∃φ,cj B U h0 T φ h w∧ER φ e a.tmps
 sz:a.tmps.size=nt
 df:∃ms:List Nat,a.defers=ms.map (λD=>{ target :=.collected D,args :=#[] })∧ms.Nodup∧∀D∈ms,lo≤D∧w.heap[D]? = some (.deferred (some []))
def Fe (b:HP)(d:DM)(wr:Option (Pos×EO)):(HP.ov b (setW d wr)).get=tG (HP.ov b d).get wr:=by
 cases wr with
 |none=>rfl
 |some p=>exact HP.get_set b d p.1 p.2
section
variable {P:Program}{Gl:Glt}{B lo:Nat}{W:W0}{U:Gx}{h0:Pos→EO}{T:World}{nt:Nat}{ops:Array Oper}{Γ:List Lq}{ck:Callk}
def Rl.step (j:Inv B W U h0 T){e:Env}{h:Pos→EO}{a:Act}{w:World}(r:Rl B lo U h0 T nt e h a w){φ ψ:Gx}{J:Pos→EO}{l:World}(p:cj B U h0 T φ h w)(hE:ER φ e a.tmps)(f:cj B φ h w ψ J l){d:Option Tmp}{g:Option Pos}(hd:Um nt d=some g){out:TV}{v:Value}(R:RT ψ out v):Rl B lo U h0 T nt (aZ e g out) J (a.put d v) l:=by obtain⟨h1,h2⟩:=dZ (hE.mono f.1) r.sz hd R;obtain⟨P,m1,m2,m3⟩:=r.df;refine⟨⟨ψ,p.trans f,h1⟩,h2,P, ?_,m2,λD C=>⟨(m3 D C).1,(f.2.1 _ (p.2.1 _ j).self).kp.keep _ _ (m3 D C).2 rfl⟩⟩;cases d <;> exact m1
def kH (B lo:Nat)(U:Gx)(h0:Pos→EO)(T:World)(nt:Nat)(e:Env)(h:Pos→EO):Exit→Act→World→Prop
 |.normal,a,w=>Rl B lo U h0 T nt e h a w
 |_,_,_=>False
def bt {ro:Option Nat}{n:Nat}(j:Inv B W U h0 T)(hG:sZ Gl P B W)(C:CkOk P Gl B ck Γ)(hcx:Ctx Γ U T)(hnd:∀o∈ops.toList,fE ro o){b:HP}{e':Env}{d':DM}{n':Pos}{Q:Exit→Act→World→Prop}(hQ:∀a w,Rl B lo U h0 T nt e' (HP.ov b d').get a w→Q .normal a w):∀(l:List Oper) (i:Nat) (e:Env) (d:DM) (f:Pos) (a:Act) (w:World),ops.toList.drop i=l →
  aP ck b (ny P Gl nt ops.toList l) e d f = .ok e' d' n'→Rl B lo U h0 T nt e (HP.ov b d).get a w→wpOpsIn (RF ro) n P ops Q (List.range' i (ops.size-i)) a w
 |[],i,e,d,f,a,w,hd,h,hr=>by
  have hsz:ops.size-i=0:=by have:=i_ List.length hd;simpa using this
  rw[hsz];simp only[ny,aP]at h;injection h with h1 h2 h3;subst h1;subst h2;exact hQ _ _ hr
 |o::l,i,e,d,f,a,w,hd,h,hr=>by
  have hlt:i<ops.size:=by have:=i_ List.length hd;simp at this;omega
  have R:ops[i]? = some o:=by
   have:(ops.toList.drop i)[0]? = some o:=by rw[hd];rfl
   rw[q_]at this;simpa using this
  have hd':ops.toList.drop (i+1)=l:=by rw[←List.drop_drop,hd];rfl
  have hno:fE ro o:=hnd o (C_.2 (m? R));rw[show ops.size-i=(ops.size-(i+1))+1 by omega,Z_,wpOpsIn_cons];obtain⟨φ,hs,hE⟩:=hr.ex;have hI:=hs.2.1 _ j;simp[ny,aP]at h;split at h
  next fo al hc=>
   obtain⟨dst,xs,p,_,_,_,hfd,_⟩:=Ul hc;cases J:bw al (HP.ov b d).get f with
   |false=>rw[J]at h;cases h
   |true=>
    rw[J,O']at h;split at h
    ·rename_i out wr hst;have hf:al=true→(HP.ov b d).get f = .none:=λhal=>by
      subst hal;unfold bw at J;simp only at J;split at J
      next hn=>exact hn
      ·cases J
     refine O6 R hc hI hG hE hno hf hst λψ v w' r hv=>?_;have:=hr.step j hs hE r p hv;rw[←Fe]at this;rw[hfd]at h;exact bt j hG C hcx hnd hQ l (i+1) _ _ _ _ w' hd' h this
    ·cases h
  next args dst g hc=>
   obtain⟨_,_,_,_,_,p,_⟩:=Bp hc;split at h
   ·rename_i hg;split at h
    ·rename_i t vs hen;split at h
     next out d1 n1 hcall=>refine HK R hc hg hI hE hno hen (λus hus=>C.call _ _ _ _ _ _ _ _ hcall W φ w hG hI us hus (hcx.more j hs)) λψ v w' r hv=>?_;exact bt j hG C hcx hnd hQ l (i+1) _ _ _ _ w' hd' h (hr.step j hs hE r p hv)
     ·cases h
    ·cases h
   next hg=>refine Fb R hc hg hE ?_;exact bt j hG C hcx hnd hQ l (i+1) _ _ _ _ w hd' h (hr.step j hs hE cj.refl p tH)
   ·cases h
  next x dst hc=>
   obtain⟨_,_,_,p,_⟩:=MX hc;split at h
   next out wr hst=>refine XW R hc hI hE hno hst λψ v w' r hv=>?_;have:=hr.step j hs hE r p hv;rw[←Fe]at this;exact bt j hG C hcx hnd hQ l (i+1) _ _ _ _ w' hd' h this
   ·cases h
  ·cases h
end
