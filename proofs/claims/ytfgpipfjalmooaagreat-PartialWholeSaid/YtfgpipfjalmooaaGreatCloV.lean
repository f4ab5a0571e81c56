/- Closed runs. -/
import Derived.Test.YtfgpipfjalmooaaGreatCloQ
import Derived.Lib.MakeNoZero
import Derived.Lib.UnsafeStr
import Derived.Laws.Externs
import Derived.Lib.Bytealg
import Derived.KernelRfl
import Derived.RangeFuncCalls
import Derived.RangeFuncLeaves
import Derived.OrdersIn
import Derived.LoopNIn
import Derived.LoopN
import Derived.RangeFuncIn
import Derived.RangeFuncRecord
open Option renaming some→ä,none→ö
open Bool renaming true→ü,false→ß
open Go renaming World→æ,Value→ø,Program→å,TypeId→é,Operand→è,FuncId→ê,execOp→ë,Oper→ï,Exit→î
set_option linter.all false
namespace Go.Proofs.YtfgpipfjalmooaaGreat
namespace Clo
open Go Go.RowKit
variable [SymVal]
section
variable {P:å}{B:Nat}{T:W0}{φ:Gx}{h:Pos→EO}{w:æ}{o:ï}{a:Act}
def F0 {s:Nat}:∀{g:List Nat} {J:List TV} {i:Nat} {l:List (List CV)} {f:List ø},O7 s i g J=ä l→RTs φ J f→g=List.range' i f.length∧l.length=f.length∧(∀v∈f,v.cells.size=s)∧dens φ l.flatten=ä (f.map λv=>v.cells.toList).flatten∧∀a∈l,a.length=s
 |[],[],i,l,f,h,hr=>by cases h;rw[hr.nil];exact⟨rfl,rfl,(λv hv=>by cases hv),rfl,λa ha=>by cases ha⟩
 |j::js,.pv p::J,i,l,f,h,hr=>by
  obtain⟨v,ws,rfl,h1,h2⟩:=hr.cons;simp[O7]at h;cases r:(Nat.beq i j&&Nat.beq p.cells.length s)with
  |false=>rw[r]at h;cases h
  |true=>
   rw[r,U']at h;simp at r;obtain⟨rfl,c2⟩:=r;split at h
   ·rename_i l' hl;cases h;obtain⟨q1,q2,q3,U,T⟩:=F0 hl h2;have R:=da (φ:=φ) (p:=p) (v:=v) h1;refine⟨by rw[q1,v_,e?],by simp[q2],λu C=>?_, ?_,λb P=>?_⟩
    ·obtain rfl|C:=c_.1 C
     ·rw[←Array.length_toList,ba R,c2]
     ·exact q3 u C
    ·rw[K_,c?,K_];exact cx R U
    ·obtain rfl|P:=c_.1 P
     ·exact c2
     ·exact T b P
   ·cases h
 |[],_::_,_,_,_,h,_=>by simp[O7]at h
 |_::_,[],_,_,_,h,_=>by simp[O7]at h
 |_::_,.unk::_,_,_,_,h,_=>by simp[O7]at h
 |_::_,.tup _::_,_,_,_,h,_=>by simp[O7]at h
def HW (f:è→ø):∀(l:List (Nat×è)) (i:Nat),l.map (·.1)=List.range' i (l.map λp=>f p.2).length→l.map (λp=>(p.1,f p.2))=(List.range' i (l.map λp=>f p.2).length).zip (l.map λp=>f p.2)
 |[],i,_=>rfl
 |p::l,i,h=>by simp only[c?,v_,e?,k_]at h;simp only[c?,v_,e?,aka,k_,C',P_];exact⟨h.1,HW f l (i+1) h.2⟩
variable{f:Pos}{J:List TV}{out:TV}{wr:Option (Pos×EO)}
def ZS {b N s n:Nat}{cap:Option Nat}(g:Am cap n N 0=ü):RT (φ.add f ⟨b,N,s⟩) (.pv (.one (.sl f 0 0 n cap))) (.slice (ä ⟨b,0,ö⟩) n (iA cap N 0)):=by show den _ (.sl f 0 0 n cap)=_;simp[den,Gx.gh,g]
def ahz (hI:Inv B T φ h w){t e:é}{len:Nat}{parts:Array (Nat×è)}(ho:o.op = .buildSlice t len parts)(hu:P.underlying t=ä (.slice e)){z:PV}(hz:dZ P e=ä z)(hzs:z.cells.length=ap P e)(hs0:ap P e≠0)(hf:h f = .none)(hv:RTs φ J ((parts.toList.map (·.2)).map a.eval))
  (hq:(afx e (ap P e) len z.cells (parts.toList.map (·.1)) J f).run h=ä (out,wr)):OkX P B T φ h w o a out wr:=by
 unfold afx at hq;split at hq
 next l hl=>
  cases hc:(Nat.ble l.length len&&Nat.ble (len*ap P e) 16777216)with
  |false=>rw[hc]at hq;cases hq
  |true=>
   rw[hc,U']at hq;simp[br]at hc;obtain⟨c1,c2⟩:=hc;cases hq;have hv':RTs φ J (parts.toList.map λp=>a.eval p.2):=by simpa[V_,Function.comp_def]using hv
   obtain⟨q1,q2,q3,q4,q5⟩:=F0 hl hv';obtain⟨i,zv,h1,h2,h3⟩:=gq hz;have hzd:=da (h3 φ);have C:zv.cells.size=ap P e:=by rw[←Array.length_toList,ba hzd,hzs]
   have hzl:zv.cells.toList.length=ap P e:=by rw[ο];exact C
   have his:i.size=ap P e:=by simp[ap,h1]
   have hzf:=DN zv.cells len Ω;have hzz:((Array.range (len*zv.cells.size)).map (zv.cells[· % zv.cells.size]!)).size=len*ap P e:=by simp[C]
   obtain⟨r,e1,e2⟩:=uf (ap P e) (parts.toList.map λp=>a.eval p.2) 0 ((Array.range (len*zv.cells.size)).map (zv.cells[· % zv.cells.size]!)) q3 (by rw[hzz,Z',←q2];exact r_ _ c1);rw[←HW a.eval parts.toList 0 q1]at e1;rw[hzf,akj,E?,s_,Z',←q2,Qd hzl _ _ c1]at e2;have U:∀b∈l++List.replicate (len-l.length) z.cells,b.length=ap P e:=λb hb=>by
    obtain hb|hb:=q'.1 hb
    ·exact q5 b hb
    ·rw[akK hb,hzs]
   have hd:dens φ (l++List.replicate (len-l.length) z.cells).flatten=ä r.toList:=by rw[akx,e2];exact cx q4 (GQ hzd _)
   have hll:(l++List.replicate (len-l.length) z.cells).length=len:=by simp;omega
   have hsz:r.size=len*ap P e:=by rw[←Array.length_toList,ba hd,ir U,hll]
   have hlen:len≤16777216:=ξ (Nat.le_mul_of_pos_right len Ω) c2;obtain⟨p1,p2⟩:=hI.newR hf (e:=e) (s:=ap P e) (N:=len) (l:=l++List.replicate (len-l.length) z.cells) (vs:=r.toList) (e7:=r) (fr:=(0,0)) (fz :=.no) Ω U hd (λj u hu=>by simpa using hu) hsz Ω Ω rfl;rw[hll]at p2;refine ju (v :=.slice (ä ⟨w.heap.size,0,ö⟩) len len) ?_ p1 p2 (ZS (cap:=ä len) rfl);have hne:len*ap P e=0∨len*ap P e≠0:=Ω
   have hbig:¬len*i.size>2^24:=by rw[his];omega
   have g:(parts.map λp=>(p.1,a.eval p.2)).toList=parts.toList.map λp=>(p.1,a.eval p.2):=by simp
   unfold ë;by_cases h0:len*ap P e=0
   ·have R:((Array.range (len*ap P e)).map ((#[]:Array ø)[· % (#[]:Array ø).size]!))=((Array.range (len*zv.cells.size)).map (zv.cells[· % zv.cells.size]!)):=by
     rw[C,h0];exact Array.ext Ψ λj hj _=>by simp at hj
    simp only[ho,Instr.buildSlice,π,η hu,χ,aH hs0];rw[ω Ω];simp only[h0,i?,π,n_,χ];rw[h0]at R;rw[R,g,e1];simp[Go.newRow]
   ·simp only[ho,Instr.buildSlice,π,η hu,χ,aH hs0];rw[ω Ω];have hzr:(zeroValue e).run P w = .ok zv w:=by simp[zeroValue,typeInfo,h1,h2]
    simp only[h0,akZ,π,n_,χ,hzr];rw[C]at e1;rw[C,g,e1];simp[Go.newRow]
 ·cases hq
def ahw (hI:Inv B T φ h w){t e:é}{x y:è}(ho:o.op = .makeSlice t x y)(hu:P.underlying t=ä (.slice e)){z:PV}(hz:dZ P e=ä z)(p:z.cells.length=ap P e)(hs0:ap P e≠0)(hf:h f = .none)(hv:RTs φ J [a.eval x,a.eval y])
  (g:(afu e (ap P e) (wC P e) z.cells J f).run h=ä (out,wr)):OkX P B T φ h w o a out wr:=by
 unfold afu at g;split at g
 ·obtain⟨v1,ws,e1,hr1,hr2⟩:=hv.cons;obtain⟨v2,e2,hr3⟩:=hr2.one;subst e2;simp at e1;obtain⟨e1,e2⟩:=e1;subst e1;subst e2;split at g
  next k1 n k2 c=>
   cases U:(Nat.ble n c&&Nat.ble c 16777216&&Nat.ble (c*wC P e) 16777216)with
   |false=>rw[U]at g;cases g
   |true=>
    rw[U,U']at g;simp[br]at U;obtain⟨⟨c1,c2⟩,c3⟩:=U;cases g;obtain⟨i,zv,h1,h2,h3⟩:=gq hz;have r:=da (h3 φ);have hzv:zv.cells.size=ap P e:=by rw[←Array.length_toList,ba r,p]
    have C:i.size=ap P e:=by simp[ap,h1]
    have hib:i.bytes=wC P e:=by simp[wC,h1]
    have hzf:=DN zv.cells c Ω;have hd:=GQ r c;have R:∀b∈List.replicate c z.cells,b.length=ap P e:=λb hb=>by rw[akK hb,p]
    obtain⟨p1,p2⟩:=hI.newR hf (e:=e) (s:=ap P e) (N:=c) (l:=List.replicate c z.cells) (vs:=(List.replicate c zv.cells.toList).flatten) (e7:=madeCells zv.cells (c*i.size)) (fr:=(0,0)) (fz :=.no) Ω R hd (λj u hu=>by
     rw[C,←hzv,←Array.getElem?_toList,madeCells,hzf];exact hu) (by rw[size_madeCells,C]) Ψ Ξ rfl
    rw[List.length_replicate]at p2;refine ju (v :=.slice (ä ⟨w.heap.size,0,ö⟩) n c) ?_ p1 p2 (ZS (cap:=ä c) rfl);have hx:a.eval x = .int k1 (n:Int):=dE hr1;have hy:a.eval y = .int k2 (c:Int):=dE hr3;have hb':(i.bytes:Int)*(c:Int)≤281474976710656:=by
     have h:((c*wC P e:Nat):Int)≤16777216:=Ω
     rw[Int.natCast_mul,Int.mul_comm]at h;rw[hib];omega
    have:=run_make (P:=P) w t e i zv hu h1 h2 k1 k2 n c Ω Ω hb' Ω;unfold ë;simp[ho,hx,hy,π,this,n_]
  ·cases g
 ·cases g
end
variable [SymVal]
section
variable {P:å}{B:Nat}{T:W0}{φ:Gx}{h:Pos→EO}{w:æ}{o:ï}{a:Act}
def aid:(Extern.allGenericRows.lookup "internal/abi.NoEscape").isNone=true:=Φ
def aic:(Extern.allTypedRows.lookup "internal/abi.NoEscape").isNone=true:=Φ
def aib:Extern.allRows.lookup "internal/abi.NoEscape" = ä Extern.AbiNoEscape.same:=Φ
variable{fn:Func}{cl:Call}{f:ê}{J:List TV}{fr k:Pos}{out:TV}{wr:Option (Pos×EO)}{x:è}{e:é}{e7:Array ø}{s g:Nat}{el:PT Ch}{fz:Fz}{l:Loc}
def HG (h:fn.name = "internal/abi.NoEscape"):Extern.find fn=ä Extern.AbiNoEscape.same:=by simp only[Extern.find,h,aj4.1 aid,aj4.1 aic,aib];rfl
def aia:(Extern.allGenericRows.lookup "internal/bytealg.IndexByteString").isNone=true:=Φ
def ah9:(Extern.allTypedRows.lookup "internal/bytealg.IndexByteString").isNone=true:=Φ
def ah8:Extern.allRows.lookup "internal/bytealg.IndexByteString" = ä Extern.BytealgIndexByte.indexByte:=Φ
def GA (h:fn.name = "internal/bytealg.IndexByteString"):Extern.find fn=ä Extern.BytealgIndexByte.indexByte:=by simp only[Extern.find,h,aj4.1 aia,aj4.1 ah9,ah8];rfl
def PQ {e:Array ø→Sem ø}(ho:o.op = .call cl)(hcl:cl.callee = .value (.func f))(hf:P.funcs[f]? = ä fn)(hb:fn.body=ö)(hname:fn.name ≠ "runtime.NumGoroutine")(hn:Extern.findNext fn=ö)(he:Extern.find fn=ä e){v:ø}{w':æ}(hr:(e (cl.args.map a.eval)).run P w = .ok v w'):(ë a.eval o).run P w = .ok (.value v) w':=by have hc:=run_callFunc_extern (P:=P) hf (by simpa using hname) (by simp[hb]) hn he (cl.args.map a.eval) w;unfold ë;simp[ho,resolve,hcl,Act.eval,Deferred.ofValue,invoke,hc,hr]
def OE (hI:Inv B T φ h w)(ho:o.op = .call cl)(hcl:cl.callee = .value (.func f))(hf:P.funcs[f]? = ä fn)(hb:fn.body=ö)(hn:Extern.findNext fn=ö)(he:fn.name = "internal/abi.NoEscape")(hv:RTs φ J (cl.args.toList.map a.eval))(hq:(Tq J fr).run h=ä (out,wr)):OkX P B T φ h w o a out wr:=by
 unfold Tq at hq;split at hq
 ·cases hq;obtain⟨v,e1,hr⟩:=hv.one;have e2:cl.args.map a.eval = #[v]:=by
   apply D_;rw[alu,e1]
  exact au hI (PQ ho hcl hf hb (by rw[he];decide) hn (HG he) (by rw[e2];rfl)) hr
 ·cases hq
def Jd (c:Nat)(r:c<256):∀(l:List Nat) (i:Nat),okStr l=ü→abr c l i=if Lib.indexByte (l.map UInt8.ofNat) (UInt8.ofNat c) = -1 then -1 else Lib.indexByte (l.map UInt8.ofNat) (UInt8.ofNat c)+(i:Int)
 |[],i,_=>rfl
 |b::l,i,h=>by
  obtain⟨P,J⟩:=gi h;simp only[abr,c?,Lib.indexByte];cases C:Nat.beq b c with
  |true =>rw[qj.1 C];simp
  |false=>
   have j:(UInt8.ofNat b == UInt8.ofNat c)=false:=by have:=J_ C;rw[S'];exact λe=>this (AU P r e)
   rw[j,I_,Jd c r l (i+1) J];have p:=Lib.indexByte_ge (l.map UInt8.ofNat) (UInt8.ofNat c);generalize Lib.indexByte (l.map UInt8.ofNat) (UInt8.ofNat c)=x at p⊢;by_cases g:x = -1
   ·subst g;rfl
   ·have f:(x == -1)=false:=by rw[S'];exact g
    simp[g,f];rw[ω Ω];omega
def ahB (hI:Inv B T φ h w)(ho:o.op = .call cl)(hcl:cl.callee = .value (.func f))(hf:P.funcs[f]? = ä fn)(hb:fn.body=ö)(hn:Extern.findNext fn=ö)(he:fn.name = "internal/bytealg.IndexByteString")(hv:RTs φ J (cl.args.toList.map a.eval))(hq:(ab4 J fr).run h=ä (out,wr)):OkX P B T φ h w o a out wr:=by
 unfold ab4 at hq;split at hq
 ·obtain⟨v1,ws,e1,hr1,hr2⟩:=hv.cons;obtain⟨v2,e2,hr3⟩:=hr2.one;subst e2;split at hq
  next b c=>
   cases hc:Nat.blt c 256 with
   |false=>rw[hc]at hq;cases hq
   |true=>
    rw[hc,U',cR]at hq;have hc:=cB.1 hc;cases hq;obtain⟨h1,h2⟩:=oE hr1;have h3:v2 = .int .u8 (c:Int):=dE hr3;have e2:cl.args.map a.eval = #[v1,v2]:=by apply D_;rw[alu,e1]
    refine au hI (v :=.int .i64 (abr c b 0)) (PQ ho hcl hf hb (by rw[he];decide) hn (GA he) ?_) (dl _ _);rw[e2,h2,h3];unfold strV;rw[Lib.run_indexByteString];have hs:=Jd c hc b 0 h1;have hcc:((c:Int).toNat).toUInt8=UInt8.ofNat c:=rfl;rw[hs,hcc];by_cases hx:Lib.indexByte (b.map UInt8.ofNat) (UInt8.ofNat c) = -1
    ·rw[Θ hx,hx]
    ·rw[ω hx];simp
  ·cases hq
 ·cases hq
def ahq (hI:Inv B T φ h w)(ho:o.op = .call cl)(C:cl.callee = .builtin .unsafeSliceData)(l:cl.args = #[x])(hv:RTs φ J [a.eval x])(f:(ab3 J fr).run h=ä (out,wr)):OkX P B T φ h w o a out wr:=by
 have hex:∀{v w'},(Builtin.unsafeSliceData_ cl.argTypes o.type #[a.eval x]).run P w = .ok v w'→(ë a.eval o).run P w = .ok (.value v) w':=λp=>by unfold ë;simp[ho,resolve,C,l,invoke,builtin,p]
 unfold ab3 at f;split at f
 ·obtain⟨v,e,p⟩:=hv.one;cases e;split at f
  ·cases f;exact au hI (v :=.pointer ö) (hex (by rw[fR p];rfl)) rfl
  next k g j n cap=>
   obtain⟨r,hl,ev,R⟩:=KH p;have hc:iA cap r.n (j/r.s)≠0∧out = .pv (.one (.ptr k g j))∧wr=none:=by
    cases cap with
    |some c=>
     simp only at f;cases U:Nat.blt 0 c with
     |false=>rw[U]at f;cases f
     |true =>rw[U]at f;simp[ri,Q.run]at f;have:=cB.1 U;exact⟨by simp[iA];omega,f.1.symm,f.2.symm⟩
    |none =>simp[ri,Q.run]at f;have:=br.1 R;exact⟨by simp[iA];omega,f.1.symm,f.2.symm⟩
   obtain⟨h1,rfl,rfl⟩:=hc;refine au hI (v :=.pointer (ä ⟨r.b,j,ö⟩)) (hex ?_) ?_
   ·rw[ev];exact Lib.run_unsafeSliceData_row w _ _ _ _ _ h1
   ·show den φ (.ptr k g j)=_;simp[den,hl]
  ·cases f
 ·cases f
def RL {fits:é→Bool}:∀(d:Nat) (e:é) {c g:Nat} (f n:Nat),c≤g→rowAt P fits d e c f n=ü→rowAt P fits d e g f n=ü
 |0,_,_,_,_,_,_,h=>by simp[rowAt]at h
 |d+1,e,c,g,f,n,hc,h=>by
  unfold rowAt at h⊢;by_cases p:P.cellsOf e=0
  ·simp[p]at h
  ·simp only[p,akZ]at h⊢;simp at h⊢;rcases h with⟨⟨l,j⟩,h3⟩|⟨l,j⟩
   ·exact .inl ⟨⟨l,Ω⟩,h3⟩
   ·exact .inr ⟨Ω,j⟩
def Cm:∀(d:Nat) (e:é) {c g:Nat} (f:Nat) (u:é) (n:Nat),c≤g→liesAt P d e c f u n=ü→liesAt P d e g f u n=ü
 |0,_,_,_,_,_,_,_,h=>by simp[liesAt]at h
 |d+1,e,c,g,f,u,n,hc,h=>by
  unfold liesAt at h⊢;simp at h⊢;obtain h|h:=h
  ·exact .inl (RL _ e f n hc h)
  ·right;cases j:P.underlying u with
   |none=>rw[j]at h;exact h
   |some l=>
    rw[j]at h;cases l <;> first|exact h|exact Cm d e f _ _ hc h
def WI {b:Nat}{fr:Nat×Nat}(f:w.heap[b]? = ä (.cells e7 e fr)):(shape b).run P w = .ok (ä (e,e7.size)) w:=by simp[shape,Sem.run,World.shape?,f]
def EH {a:Addr}{fr:Nat×Nat}(f:w.heap[a.block]? = ä (.cells e7 e fr)):(Conv.seenAt a).run P w = .ok a w:=by simp[Conv.seenAt,viewAt,WI f]
def Da (U:Inv B T φ h w){len f:Nat}(R:h k = .row e s el len f fz)(j:φ.loc k g=ä l):∃e7 fr,w.heap[l.b]? = ä (.cells e7 e fr)∧e7.size=l.n*s∧(g=f→len≤l.n)∧l.s=s∧0<s:=by
 have p:=U.obj k;rw[R]at p;obtain⟨h0,_,_,h2,h3⟩:=p;obtain hg|hg:=i_ f g
 ·rw[h2 g hg]at j;cases j
 ·obtain⟨l',q1,⟨q2,P,e7,fr,J,C,q6,q7⟩,r⟩:=h3 g hg;rw[q1]at j;cases j;exact⟨e7,fr,J,C,r,P,h0⟩
def UK:RT φ (.pv (.one .nilp)) (.pointer ö):=rfl
def aht (C:Inv B T φ h w){s t:é}(ho:o.op = .convert s t x)(hs:P.underlying s=ä (.pointer e))(ht:P.underlying t=ä .unsafePointer)(hz:ap P e≠0)(hv:RTs φ J [a.eval x])(f:(aft J fr).run h=ä (out,wr)):OkX P B T φ h w o a out wr:=by
 have hex:∀{v w'},(Conv.unsafePointer s t (a.eval x)).run P w = .ok v w'→(ë a.eval o).run P w = .ok (.value v) w':=λr=>by unfold ë;simp[ho,convert,η hs,η ht,r]
 unfold aft at f;split at f
 ·obtain⟨v,e1,r⟩:=hv.one;cases e1;split at f
  next k g j=>
   simp[Q.run]at f;split at f
   ·rename_i cs hcs;cases f;obtain⟨l,hl,ev⟩:=gV r;refine au C (v :=.pointer (ä ⟨l.b,j,ö⟩)) (hex ?_) (by rw[←ev];exact r);obtain⟨U,q1,q2,q3,e',len,gen,fz,s',el,hk,_,_⟩:=C.rd hcs hl;have hvl:U.length=1:=by rw[ba q1,q2]
    obtain⟨u,rfl⟩:∃u,U=[u]:=by
     match U,hvl with
     |[u],_=>exact⟨u,rfl⟩
    have hc:=q3 0 u rfl;rw[oQ,akU]at hc;obtain⟨e7,fr',R,z2,_⟩:=Da C hk hl;rw[ak0 w l.b j e7 e' fr' R]at hc;have hlt:=(δ.1 hc).1;have hno:¬e7.size≤j:=Ω
    have p:=EH (P:=P) (a:=⟨l.b,j,ö⟩) R;have hsh:w.shape? l.b=ä (e',e7.size):=by simp[World.shape?,R]
    rw[ev];simp[Conv.unsafePointer,η hs,η ht,p,cellsIn,hsh,aH hz,hz,hno]
   ·cases f
  ·cases f;have ev:=kr r;refine au C (v :=.pointer ö) (hex ?_) UK;rw[ev];simp[Conv.unsafePointer,η hs,η ht]
  ·cases f
 ·cases f
def ahr (hI:Inv B T φ h w){s t u:é}(U:o.op = .convert s t x)(hs:P.underlying s=ä .unsafePointer)(ht:P.underlying t=ä (.pointer u))(p:ap P u≠0)(hv:RTs φ J [a.eval x])(f:(afr (Zk P u) J fr).run h=ä (out,wr)):OkX P B T φ h w o a out wr:=by
 have hex:∀{v w'},(Conv.unsafePointer s t (a.eval x)).run P w = .ok v w'→(ë a.eval o).run P w = .ok (.value v) w':=λC=>by unfold ë;simp[U,convert,η hs,η ht,C]
 unfold afr at f;split at f
 ·obtain⟨v,e1,C⟩:=hv.one;cases e1;split at f
  next k g j=>
   simp[Q.run]at f;split at f
   ·rename_i e s' el hk;cases hc:Zk P u e s' j with
    |false=>rw[hc]at f;cases f
    |true=>
     rw[hc,U']at f;cases f;obtain⟨l,hl,ev⟩:=gV C;refine au hI (v :=.pointer (ä ⟨l.b,j,ö⟩)) (hex ?_) (by rw[←ev];exact C);obtain⟨e7,fr',z1,z2,z3,_,z5⟩:=Da hI hk hl;have hg0:g=0:=by
      have U:=hI.obj k;rw[hk]at U;obtain⟨_,_,_,h2,_⟩:=U;cases g with
      |zero=>rfl
      |succ g=>rw[h2 _ Ω]at hl;cases hl
     have hn:=z3 hg0;have hle:s'≤e7.size:=by rw[z2];exact Nat.le_mul_of_pos_left _ hn
     have R:liesAt P P.depth e (e7.size/P.cellsOf e) j u 1=true:=Cm _ _ _ _ _ (Nat.div_le_div_right hle) hc;have r:=EH (P:=P) (a:=⟨l.b,j,ö⟩) z1;have hsh:w.shape? l.b=ä (e,e7.size):=by simp[World.shape?,z1]
     rw[ev];simp[Conv.unsafePointer,η hs,η ht,r,variablesAt,hsh,R,aH p,p]
   ·cases f
  ·cases f;have ev:=kr C;refine au hI (v :=.pointer ö) (hex ?_) UK;rw[ev];simp[Conv.unsafePointer,η hs,η ht]
  ·cases f
 ·cases f
def Inv.frz (hI:Inv B T φ h w){len R:Nat}(hk:h k = .row e s el len R fz)(hl:φ.loc k g=ä l)(p:Addr)(P:p.block=l.b)(n:Nat):Inv B T φ (upd h k (.row e s el len R .yes)) (w.freeze p n):=by
 have ho:=hI.obj k;rw[hk]at ho;obtain⟨h0,h1,hm,h2,h3⟩:=ho;obtain⟨arr0,fr0,y1,_⟩:=Da hI hk hl;have f:∀b,b≠l.b→(w.freeze p n).heap[b]? = w.heap[b]?:=λb j=>by
  unfold World.freeze;split
  ·rfl
  ·simp only[b?];rw[ω (by rw[P];exact λe=>j e.symm)]
 have r:∀e7 e fr,w.heap[l.b]? = ä (.cells e7 e fr)→∃C,(w.freeze p n).heap[l.b]? = ä (.cells e7 e C):=λe7 e fr j=>by
  unfold World.freeze;split
  ·exact⟨fr,j⟩
  ·simp only[b?];rw[Θ P,j];exact⟨_,rfl⟩
 have hfs:(w.freeze p n).os=w.os∧(w.freeze p n).tape=w.tape∧(w.freeze p n).output=w.output∧w.heap.size≤(w.freeze p n).heap.size∧dz w≤dz (w.freeze p n):=by
  unfold World.freeze;split
  ·exact⟨rfl,rfl,rfl,ε _,ε _⟩
  ·exact⟨rfl,rfl,rfl,Ψ,ε _⟩
 obtain⟨f1,f2,f3,f4,f5⟩:=hfs;refine hI.lb (ψ:=φ) (Gx.le.refl φ) (λ_ _=>⟨λ_=>rfl,rfl,rfl⟩) (λU J x=>.inl ⟨U,J,x,rfl⟩) (λb j hne=>f b λe=>hne g l hl e.symm) (λU J x ob z1 z2=>?_) f1 f2 f3 f4 f5 ⟨h0,h1,hm,h2,λU hg1=>?_⟩
 ·by_cases j:J.b=l.b
  ·rw[j,y1]at z1;cases z1;cases z2
  ·rw[f _ j];exact z1
 ·obtain⟨J,q1,⟨q2,q3,e7,fr,q4,q5,q6,q7⟩,q8⟩:=h3 U hg1;refine⟨J,q1, ?_,q8⟩;by_cases j:J.b=l.b
  ·obtain⟨C,z⟩:=r e7 e fr (by rw[←j];exact q4);exact⟨q2,q3,e7,C,by rw[j];exact z,q5,apa,q7⟩
  ·exact⟨q2,q3,e7,fr,by rw[f _ j];exact q4,q5,apa,q7⟩
def ahp (hI:Inv B T φ h w){y:è}{t t2:é}(ho:o.op = .call cl)(hcl:cl.callee = .builtin .unsafeString)(hargs:cl.args = #[x,y])(hty:cl.argTypes = #[t,t2])(hu:P.underlying t=ä (.pointer e))(hv:RTs φ J [a.eval x,a.eval y])(f:(afq e (TW P) J fr).run h=ä (out,wr)):OkX P B T φ h w o a out wr:=by
 have hex:∀{v w'},(Builtin.unsafeString_ #[t,t2] o.type #[a.eval x,a.eval y]).run P w = .ok v w'→(ë a.eval o).run P w = .ok (.value v) w':=λhr=>by unfold ë;simp[ho,resolve,hcl,hargs,hty,invoke,builtin,hr]
 unfold afq at f;split at f
 ·obtain⟨v1,ws,e1,hr1,hr2⟩:=hv.cons;obtain⟨v2,e2,R⟩:=hr2.one;subst e2;simp at e1;obtain⟨e1,e2⟩:=e1;subst e1;subst e2;split at f
  ·cases f;refine au hI (v :=.string .empty) (hex ?_) (xL rfl);rw[kr hr1,show a.eval y = .int .i64 0 from dE R];exact Lib.run_unsafeString_none w t t2 o.type ö
  next k g off n=>
   obtain⟨l,hl,ev⟩:=gV hr1;split at f
   ·cases f;refine au hI (v :=.string .empty) (hex ?_) (xL rfl);rw[ev,show a.eval y = .int .i64 0 from dE R];exact Lib.run_unsafeString_none w t t2 o.type _
   ·rename_i n;simp[Q.run]at f;split at f
    ·rename_i ls hls;split at f
     ·rename_i b hb;split at f
      ·rename_i e' el len gen fz hk;cases hc:(Nat.beq e e'&&Nat.beq off 0&&TW P e' len off (n+1))with
       |false=>rw[hc]at f;cases f
       |true=>
        rw[hc,U']at f;simp at hc;obtain⟨⟨rfl,rfl⟩,c3⟩:=hc;cases f;simp[TW,br]at c3;obtain⟨c3,c4⟩:=c3;obtain⟨q1,q2,vs,q3,q4⟩:=hI.rds hl hls;obtain⟨p1,p2⟩:=uq hb q3;obtain⟨e7,fr',z1,z2,z3,_,_⟩:=Da hI hk hl;have hsh:w.shape? l.b=ä (e,e7.size):=by simp[World.shape?,z1]
        have p:b.length=n+1:=by
         have:vs.length=(n+1)*1:=by rw[ba q3,ir q2,q1]
         rw[p2]at this;simpa using this
        have r:∀(j:Nat) (x:UInt8),(b.map UInt8.ofNat)[j]? = ä x→w.cell? ((⟨l.b,0,ö⟩:Addr).add j)=ä (.int .u8 x.toNat):=λj x hj=>by
         rw[F_]at hj;simp at hj;obtain⟨c,hc,rfl⟩:=hj;have:=q4 j (.int .u8 (Int.ofNat c)) (by rw[p2,F_,hc];rfl);rw[this];have hcm:c<256:=by have:=P'.1 p1 c (x? hc);exact cB.1 this
         have:(UInt8.ofNat c).toNat=c:=by simp;omega
         rw[this];rfl
        have hfit:n+1≤e7.size:=by
         have U:∃x,(b.map UInt8.ofNat)[n]? = ä x:=by rw[F_];exact⟨UInt8.ofNat b[n],by rw[ζ Ω];rfl⟩
         obtain⟨x,hx⟩:=U;have:=r n x hx;rw[oQ,Z',ak0 w l.b n e7 e fr' z1]at this;have:=(δ.1 this).1;omega
        have hl32:len+2≤2^32:=by have ho:=hI.obj k;rw[hk]at ho;exact ho.2.1
        have C:=Lib.run_unsafeString_row (P:=P) w t t2 o.type e hu c3 l.b e7.size hsh (b.map UInt8.ofNat) (by intro e0;rw[List.map_eq_nil_iff]at e0;rw[e0]at p;simp at p) (by simpa[p]using hfit) (by simp[p];omega) r;refine ju (v:=strV b) (hex ?_) (Gx.le.refl φ) (hI.frz hk hl ⟨l.b,0,ö⟩ rfl (b.map UInt8.ofNat).length) (xL p1);rw[ev,show a.eval y = .int .i64 ((n+1:Nat):Int) from dE R];rw[G',p]at C;rw[G',p];exact C
      ·cases f
     ·cases f
    ·cases f
  ·cases f
 ·cases f
end
variable [SymVal]
section
variable {P:å}{B:Nat}{T:W0}{φ:Gx}{h:Pos→EO}{w:æ}{o:ï}{a:Act}
variable{J:List TV}{f:Pos}{out:TV}{wr:Option (Pos×EO)}{α:Type}{cl:Call}{k:K}{xs:List è}
def Fr (r:Inv B T φ h w){op:BinOp}{t ty:é}{x y:è}(p:o.op = .binOp op t x y ty)(hv:RTs φ J [a.eval x,a.eval y])(g:(sC op J f).run h=ä (out,wr)):OkX P B T φ h w o a out wr:=by
 unfold sC at g;split at g
 ·obtain⟨v1,ws,C,l,R⟩:=hv.cons;obtain⟨v2,e2,j⟩:=R.one;subst e2;simp at C;obtain⟨C,e2⟩:=C;subst C;subst e2;split at g
  ·split at g
   ·rename_i k m k' n;have h1:=dE l;have h2:=dE j;split at g
    ·exact aaA r p h1 h2 g
    ·exact aaA r p h1 h2 g
    ·cases U:kq k k' with
     |false=>rw[U]at g;cases g
     |true =>rw[U,U']at g;have:=IZ U;subst this;exact aeD r p h1 h2 g
   ·obtain⟨q1,q2⟩:=oE l;obtain⟨q3,q4⟩:=oE j;exact aeC r p q1 q3 q2 q4 g
   ·cases g
  ·cases g
 ·cases g
def Lg (p:Inv B T φ h w){v:ø}(l:(ë a.eval o).run P w = .ok (.value v) w)(j:RTs φ J [v])(g:(Tq J f).run h=ä (out,wr)):OkX P B T φ h w o a out wr:=by
 unfold Tq at g;split at g
 ·cases g;obtain⟨u,e,r⟩:=j.one;cases e;exact au p l r
 ·cases g
def wh {l:Array α}{x y:α}(h:l.toList=[x,y]):l = #[x,y]:=D_ h
def Mr {l:Array α}{x:α}(h:l.toList=[x]):l = #[x]:=D_ h
def Sk (U:Inv B T φ h w){b:Builtin}(R:o.op = .call cl)(l:cl.callee = .builtin b)(g:G8 P cl b=ä (k,xs))(hf:kAl k=ü→h f = .none)(r:RTs φ J (xs.map a.eval))(C:(dR k J f).run h=ä (out,wr)):OkX P B T φ h w o a out wr:=by
 unfold G8 at g;split at g
 next x t j p=>
  have j:=Mr j;have p:=Mr p;split at g
  next hu=>cases g;exact aet (f:=f) U R l j p hu r C
  next hu=>cases g;exact aev (f:=f) U R l j p hu r C
  next hu=>cases g;exact aeu (f:=f) U R l j p hu r C
  ·cases g
 next s x t u j p=>
  have j:=wh j;have p:=wh p;split at g
  next e hu=>
   split at g
   ·rename_i z hz;split at g
    ·cases g
    ·rename_i hn;simp[alk]at hn;split at g
     next e2 hu2=>cases g;exact aaE (f:=f) U R l j p hu hz hn.2 hn.1 (.inl ⟨rfl,e2,hu2⟩) (hf rfl) r C
     ·rename_i hu2;split at g
      next hs=>cases g;exact aaE (f:=f) U R l j p hu hz hn.2 hn.1 (.inr ⟨rfl,hu2,hs⟩) (hf rfl) r C
      ·cases g
     ·cases g
   ·cases g
  ·cases g
 next x j=>have j:=Mr j;cases g;exact ahq (fr:=f) U R l j r C
 next x y t t2 j p=>
  have j:=wh j;have p:=wh p;split at g
  next e hu=>
   split at g
   ·cases g;exact ahp (fr:=f) U R l j p hu r C
   ·cases g
  ·cases g
 next x y j=>have j:=wh j;cases g;exact agA (big:=ü) (f:=f) U R l j r C
 next x y j=>have j:=wh j;cases g;exact agA (big:=ß) (f:=f) U R l j r C
 ·cases g
def OI (hI:Inv B T φ h w){fi:ê}{fn:Func}(R:o.op = .call cl)(l:cl.callee = .value (.func fi))(j:P.funcs[fi]? = ä fn)(U:fn.body=ö)(g:aiD fn P=ä k)(hf:kAl k=ü→h f = .none)(r:RTs φ J (cl.args.toList.map a.eval))(C:(dR k J f).run h=ä (out,wr)):OkX P B T φ h w o a out wr:=by
 unfold aiD at g;split at g
 ·cases g
 next p=>
  have p:Extern.findNext fn=none:=by simpa using p
  split at g
  next he=>cases g;exact OE (fr:=f) hI R l j U p he r C
  ·split at g
   next he=>cases g;exact ahB (fr:=f) hI R l j U p he r C
   ·cases g
def Pf {o:Option α}(h:¬o.isSome=ü):o=none:=by cases o <;> simp_all
def acR {Gl:Glt}(hG:sj Gl P B T)(U:Inv B T φ h w)(j:cK P Gl o.op=ä (k,xs))(hf:kAl k=ü→h f = .none)(hv:RTs φ J (xs.map a.eval))(R:(dR k J f).run h=ä (out,wr)):OkX P B T φ h w o a out wr:=by
 have C:∀{k':K} {xs':List è},ä (k',xs')=ä (k,xs)→k'=k∧xs'=xs:=λh=>by simp at h;exact h
 cases p:o.op <;> rw[p]at j <;> simp only[cK]at j <;> first|(cases j;done)|skip
 case move x=>obtain⟨rfl,rfl⟩:=C j;exact Lg (f:=f) U (by unfold ë;simp[p]) hv R
 case assign x=>obtain⟨rfl,rfl⟩:=C j;exact Lg (f:=f) U (by unfold ë;simp[p]) hv R
 case pick c x y=>
  obtain⟨rfl,rfl⟩:=C j;simp[dR,Vg]at R;split at R
  ·obtain⟨v1,ws,e1,hr1,hr2⟩:=hv.cons;obtain⟨v2,ws2,e2,hr3,hr4⟩:=hr2.cons;obtain⟨v3,e3,hr5⟩:=hr4.one;subst e3;subst e2;simp at e1;obtain⟨e1,e2,e3⟩:=e1;subst e1;subst e2;subst e3;split at R
   next b=>cases R;cases b <;> exact Le (P:=P) U p hr1 hr3 hr5
   ·cases R
  ·cases R
 case alloc e=>
  split at j
  next z hz=>
   split at j
   ·cases j
   next hs=>obtain⟨rfl,rfl⟩:=C j;exact Fu (f:=f) U p hz hs (hf rfl) R
  ·cases j
 case box e x=>
  split at j
  ·cases j
  next hs=>obtain⟨rfl,rfl⟩:=C j;exact Sl (f:=f) U p hs (hf rfl) hv R
 case build t parts=>
  split at j
  next z fs hz hu=>
   split at j
   ·rename_i ha;split at j
    next ps hp=>obtain⟨rfl,rfl⟩:=C j;exact zm (f:=f) U p hz (.inl ⟨fs,hu,ha,hp⟩) hv R
    ·cases j
   ·cases j
  next z n e hz hu=>
   split at j
   ·cases j
   next hs=>obtain⟨rfl,rfl⟩:=C j;exact zm (f:=f) U p hz (.inr ⟨n,e,hu,hs,rfl⟩) hv R
  ·cases j
 case buildSlice t len parts=>
  split at j
  next e hu=>
   split at j
   ·rename_i z hz;split at j
    ·cases j
    next hn=>simp[alk]at hn;obtain⟨rfl,rfl⟩:=C j;exact ahz (f:=f) U p hu hz hn.2 hn.1 (hf rfl) hv R
   ·cases j
  ·cases j
 case load t ad=>
  split at j
  next g=>
   split at j
   next v hg=>obtain⟨rfl,rfl⟩:=C j;refine Lg (f:=f) U (v:=v) ?_ hv R;have:=hG.1 g t _ hg w U.below;unfold ë;simp[p,Act.eval,π,this,n_,gv]
   ·cases j
  ·split at j
   ·cases j
   ·rename_i hs;split at j
    next b hb=>obtain⟨rfl,rfl⟩:=C j;exact aes (f:=f) U p hs hb hv R
    ·cases j
 case store t ad x=>
  split at j
  ·cases j
  next hs=>obtain⟨rfl,rfl⟩:=C j;exact Fp (f:=f) U p hs hv R
 case nilCheck x=>obtain⟨rfl,rfl⟩:=C j;exact Xd (f:=f) U p hv R
 case binOp op t x y ty=>
  have eq:∀{neg:Bool},o.op = .binOp (z6 neg) t x y ty→(∀k,P.underlying t≠ä (.int k))→P.underlying t≠ä .string→(match GJ P t (isC x||isC y)with|some q=>ä (K.eql neg q,[x,y])|none=>ö)=ä (k,xs)→OkX P B T φ h w o a out wr:=λ{neg} ho h1 h2 j=>by
   split at j
   next q hq0=>obtain⟨rfl,rfl⟩:=C j;exact ahE (f:=f) U ho h1 h2 hq0 hv R
   ·cases j
  split at j
  ·split at j
   ·obtain⟨rfl,rfl⟩:=C j;exact Fr (f:=f) U p hv R
   ·obtain⟨rfl,rfl⟩:=C j;exact Fr (f:=f) U p hv R
   next h1 h2=>exact eq (neg:=ß) p (λk e=>h1 k e) h2 j
  ·split at j
   ·obtain⟨rfl,rfl⟩:=C j;exact Fr (f:=f) U p hv R
   ·obtain⟨rfl,rfl⟩:=C j;exact Fr (f:=f) U p hv R
   next h1 h2=>exact eq (neg:=ü) p (λk e=>h1 k e) h2 j
  ·obtain⟨rfl,rfl⟩:=C j;exact Fr (f:=f) U p hv R
 case unOp op t x=>obtain⟨rfl,rfl⟩:=C j;exact ai5 (f:=f) U p hv R
 case convert s t x=>
  split at j
  next hs ht=>obtain⟨rfl,rfl⟩:=C j;exact aeA (f:=f) U p hs ht hv R
  next e hs ht=>
   split at j
   ·cases j
   next hz=>obtain⟨rfl,rfl⟩:=C j;exact aht (fr:=f) U p hs ht hz hv R
  next u hs ht=>
   split at j
   ·cases j
   next hz=>obtain⟨rfl,rfl⟩:=C j;exact ahr (fr:=f) U p hs ht hz hv R
  next e hs ht=>
   split at j
   next he=>rw[Θ rfl]at j;obtain⟨rfl,rfl⟩:=C j;exact ahG (f:=f) U p hs ht he hv R
   ·rw[ω Ϛ]at j;cases j
  ·cases j
 case makeFunc fn first caps=>obtain⟨rfl,rfl⟩:=C j;exact ahy (f:=f) U p (hf rfl) hv R
 case makeMap t r=>
  split at j
  next k e hu=>obtain⟨rfl,rfl⟩:=C j;exact ahx (f:=f) U p hu (hf rfl) hv R
  ·cases j
 case makeSlice t l c=>
  split at j
  next e hu=>
   split at j
   ·rename_i z hz;split at j
    ·cases j
    next hn=>simp[alk]at hn;obtain⟨rfl,rfl⟩:=C j;exact ahw (f:=f) U p hu hz hn.2 hn.1 (hf rfl) hv R
   ·cases j
  ·cases j
 case slice t x lo hi mx=>
  split at j
  next hu=>
   split at j
   ·cases j
   next hm=>have:=Pf hm;subst this;obtain⟨rfl,rfl⟩:=C j;exact ael (f:=f) U p hu hv R
  next e hu=>
   split at j
   ·cases j
   next hz=>obtain⟨rfl,rfl⟩:=C j;exact aem (f:=f) U p hu hz (hf rfl) hv R
  ·cases j
 case fieldAddr s x n=>
  split at j
  next fs hu=>
   split at j
   ·rename_i fd hn;split at j
    ·cases j
    next hz=>obtain⟨rfl,rfl⟩:=C j;exact aez (f:=f) U p hu hn hz hv R
   ·cases j
  ·cases j
 case field s x n=>
  split at j
  next fs hu=>
   split at j
   ·rename_i fd hn;split at j
    ·cases j
    ·rename_i hz;split at j
     next b hb=>obtain⟨rfl,rfl⟩:=C j;exact ahC (f:=f) U p hu hn hz hb hv R
     ·cases j
   ·cases j
  ·cases j
 case indexAddr t x i=>
  split at j
  next e hu=>
   split at j
   ·cases j
   next hz=>obtain⟨rfl,rfl⟩:=C j;exact aex (f:=f) U p hu hz hv R
  next n e hu=>
   split at j
   ·cases j
   next hz=>obtain⟨rfl,rfl⟩:=C j;exact aey (f:=f) U p hu hz hv R
  ·cases j
 case index t x i=>
  split at j
  next hu=>obtain⟨rfl,rfl⟩:=C j;exact aew (f:=f) U p hu hv R
  ·cases j
 case lookup t x i ok=>
  split at j
  next kt e hu=>
   split at j
   next q z hk hz=>obtain⟨rfl,rfl⟩:=C j;exact aer (f:=f) U p hu hk hz hv R
   ·cases j
  ·cases j
 case mapUpdate t m kk x=>
  split at j
  next kt e hu=>
   split at j
   next q hk=>obtain⟨rfl,rfl⟩:=C j;exact ahs (f:=f) U (.inl p) hu hk hv R
   ·cases j
  ·cases j
 case mapEntry t m kk=>
  split at j
  next kt e hu=>
   split at j
   next q z hk hz=>obtain⟨rfl,rfl⟩:=C j;exact aeq (f:=f) U p hu hk hz hv R
   ·cases j
  ·cases j
 case entryStore t m s x=>obtain⟨rfl,rfl⟩:=C j;exact aep (f:=f) U p hv R
 case range t x=>
  split at j
  next k e hu=>obtain⟨rfl,rfl⟩:=C j;exact aen (f:=f) U p hu (hf rfl) hv R
  ·cases j
 case entry it=>obtain⟨rfl,rfl⟩:=C j;exact ahF (f:=f) U p hv R
 case extract x i=>obtain⟨rfl,rfl⟩:=C j;exact ahD (f:=f) U p hv R
 case call c=>
  split at j
  next b hcl=>exact Sk (f:=f) U p hcl j hf hv R
  next fi hcl=>
   split at j
   ·rename_i fn hfn;split at j
    ·cases j
    ·rename_i hb;split at j
     next k' hk=>obtain⟨rfl,rfl⟩:=C j;exact OI (f:=f) U p hcl hfn hb hk hf hv R
     ·cases j
   ·cases j
  ·cases j
end
variable [SymVal]
def RF (f:Option Nat):Fence:={ Fence.wide with round:=f }
variable{P:å}{ro:Option Nat}{n B:Nat}{w:æ}{o:ï}{a:Act}{h:Pos→EO}{W:W0}{φ ψ:Gx}{e:Env}
def DF {f:ê}{args:Array ø}{R:Ending→æ→Prop}(h:Calls P f args w R):CallsIn (RF ro) n P f args w R:=by have g:CallsIn Fence.wide n P f args w R:=callsIn_wide.2 h;exact g
def fw (ro:Option Nat)(o:ï):Prop:=ro=ö∨∀c,o.op ≠ .defer c
def wW {K:Act→æ→Prop}{Q:î→Act→æ→Prop}(g:fw ro o)(h:o.wp P a w K Q):o.wpIn (RF ro) n P a w K Q:=by
 refine⟨λ_ _=>trivial, ?_⟩;have e:o.semAt (RF ro).round a.eval=ë a.eval o:=by
  obtain rfl|g:=g
  ·rfl
  ·exact Oper.semAt_eq _ _ _ g
 rw[e];unfold Oper.wp at h;generalize (ë a.eval o).run P w=r at h⊢;cases r with
 |ok x j=>
  cases x <;> simp[Oper.upon,Oper.uponIn]at h⊢;case value=>exact h
  case skip=>exact h
  case defer=>exact h
  case enter=>exact⟨(λq=>by cases q),DF h⟩
  case row =>refine⟨(λq=>by cases q),λc p _=>?_⟩;obtain⟨v,f,r1,l⟩:=h c p;exact⟨v,f,r1,stepsIn_wide.2 l⟩
 |halt x j=>cases x <;> simp[Oper.upon,Oper.uponIn]at h⊢ <;> exact h
def Nn (h f:Pos→EO):Prop:=∀k,iE (f k)=ü→iE (h k)=ü
def cr (B:Nat)(φ:Gx)(h:Pos→EO)(w:æ)(ψ:Gx)(f:Pos→EO)(g:æ):Prop:=φ.le ψ∧(∀W,Inv B W φ h w→Inv B W ψ f g)∧Nn h f
def cr.refl {B:Nat}{φ:Gx}{h:Pos→EO}{w:æ}:cr B φ h w φ h w:=⟨Gx.le.refl φ,λ_ h=>h,λ_ h=>h⟩
def Qx {o:EO}(h:iE o=ü):Cq o=ü∨o = .none:=by cases o <;> first|exact .inl rfl|exact .inr rfl|cases h
def Zg {wr:Option (Pos×EO)}(j:∀k g,wr=ä (k,g)→iE g=ß):Nn h (sL h wr):=λk f=>by
 cases wr with
 |none=>exact f
 |some p=>
  obtain⟨l,g⟩:=p;simp[sL,upd]at f;split at f
  ·rw[j l g rfl]at f;cases f
  ·exact f
def cr.trans {B:Nat}{j g f:Gx}{J C r:Pos→EO}{w1 p l:æ}(a:cr B j J w1 g C p)(b:cr B g C p f r l):cr B j J w1 f r l:=⟨a.1.trans b.1,λW h=>b.2.1 W (a.2.1 W h),λk P=>a.2.2 k (b.2.2 k P)⟩
def Inv.self (f:Inv B W φ h w):Inv B ⟨w,φ⟩ φ h w :=
 ⟨Below.refl _ _,Kp.refl _,Gx.le.refl _,λ_ _=>⟨λ_=>rfl,rfl,rfl,λ_ _ _=>rfl⟩,f.size,f.obj,f.sep⟩
def uU {U :Pos→EO}{w' :æ}(C:φ.le ψ)(f:Inv B ⟨w,φ⟩ ψ U w')(r:Nn h U):cr B φ h w ψ U w' :=
 ⟨C,(λW j=>⟨j.below.trans f.below,j.kp.trans f.kp,j.le.trans C,(λk hk=>by
  obtain⟨R,a2,a3,a4⟩:=f.cz k hk;rcases Qx (r k (WS hk))with h1|h1
  ·obtain⟨b1,b2,P,b4⟩:=j.cz k h1;exact⟨λg=>(R g).trans (b1 g),a2.trans b2,a3.trans P,λg l J=>(a4 g l J).trans (b4 g l (by rw[←J];exact(R g).symm))⟩
  ·obtain⟨b1,b2,P⟩:=j.free h1;have T:∀{α:Type} {x y:Option α},y=ö→(∀v,x=ä v→y=ä v)→x=none:=λ{α x y} hy hx=>by
    cases x with
    |none=>rfl
    |some v=>rw[hx v rfl]at hy;cases hy
   refine⟨λg=>(R g).trans ((b1 g).trans (T (b1 g) λv p=>j.le.loc k g v p).symm),a2.trans (b2.trans (T b2 λv p=>j.le.val k v p).symm),a3.trans (P.trans (T P λv p=>j.le.mu k v p).symm),λg l J=>?_⟩;rw[R g,show(W0.φ ⟨w,φ⟩).loc k g=φ.loc k g from rfl,b1 g]at J;cases J),f.size,f.obj,f.sep⟩),r⟩
def ER (φ:Gx)(e:Env)(f:Array ø):Prop:=∀t,t+2≤2^64→RT φ (e.get .unk (pos t)) (f.getD t undef)
def ER.mono {φ ψ:Gx}(h:φ.le ψ){e:Env}{f:Array ø}(j:ER φ e f):ER ψ e f:=λt g=>(j t g).mono h
def aec {t f:Nat}(h:t+2≤2^64)(l:f+2≤2^64)(e:pos t=pos f):t=f:=by have g:=tv 64 t h;have j:=tv 64 f l;unfold pos at e;rw[e,j]at g;exact g.symm
def ER.set {φ:Gx}{e:Env}{tmps:Array ø}(r:ER φ e tmps){d:Nat}(p:d<tmps.size)(g:d+2≤2^64){out:TV}{v:ø}(l:RT φ out v):ER φ (PM.set .unk (pos d) e out) (tmps.setIfInBounds d v):=λt j=>by
 rw[PM.cf];simp[upd,u_,akw];by_cases f:d=t
 ·subst f;rw[Θ rfl,Θ rfl,Θ p];exact l
 ·rw[ω (λe=>f (aec g j e)),ω f];have:=r t j;rw[u_]at this;exact this
def mB (j:ER φ e a.tmps)(x:è):RT φ (bm e (nC x)) (a.eval x):=by
 cases x with
 |tmp t=>
  simp only[nC];split
  next h=>exact j t h
  ·exact trivial
 |const v=>
  simp[nC,bm,aiT];split
  next p hp=>exact E5 hp φ
  ·exact trivial
 |global g=>exact rfl
 |func f=>exact rfl
def ui {φ:Gx}{e:Env}{a:Act}(g:ER φ e a.tmps):∀f:List è,RTs φ (aT e (f.map nC)) (f.map a.eval)
 |[]=>trivial
 |x::f=>⟨mB g x,ui g f⟩
def dW (p:ER φ e a.tmps){l:Nat}(f:a.tmps.size=l){d:Option Tmp}{j:Option Pos}(g:TD l d=ä j){out:TV}{v:ø}(r:RT φ out v):ER φ (aV e j out) (a.put d v).tmps∧(a.put d v).tmps.size=l:=by
 unfold TD at g;split at g
 ·cases g;exact⟨p,f⟩
 next d=>
  split at g
  next h=>cases g;exact⟨p.set (by rw[f];exact h.1) h.2 r,by simp[Act.put,f]⟩
  ·cases g
def sM:RT φ (.tup []) undef:=⟨[],rfl,rfl⟩
def Gu (hE:ER φ e a.tmps){p:Array ï}{g:Option (Pos×Bool)}(r:BA p.toList o.guard=ä g){b:Bool}(C:gd e g=ä b):Region.wanted o (yielded p a.tmps)=b:=by
 unfold BA at r;split at r
 next hgd=>cases r;cases C;simp[Region.wanted,hgd]
 next j want hgd=>
  split at r
  next d R=>
   split at r
   ·rename_i U;cases r;have f:=hE d U;have P:yielded p a.tmps j=match a.tmps[d]? with|some (.bool b)=>ä b|_=>none:=by
     have R:(p[j]?).bind (·.dst)=ä d:=by simpa using R
     unfold yielded;rw[R];rfl
    simp[Region.wanted,hgd,P];simp[gd]at C;rw[u_]at f;split at C
    ·rename_i c T;simp at C;rw[T]at f;have f:=Iv f;have:a.tmps[d]? = ä (.bool c):=by
      cases J:a.tmps[d]? with
      |none=>rw[J]at f;cases f
      |some x=>rw[J]at f;rw[show x=Value.bool c from f]
     rw[this];subst C;cases want <;> cases c <;> rfl
    ·rename_i l T;simp at C;rw[T]at f;obtain⟨vs,_,f⟩:=f;subst C;cases J:a.tmps[d]? with
     |none=>rfl
     |some x =>rw[J]at f;rw[show x=Value.tuple vs.toArray from f];rfl
    ·cases C
   ·cases r
  ·cases r
def sj.more {p:Glt}(h:sj p P B W){r:Pos→EO}(l:Inv B W φ r w):sj p P B ⟨w,ψ⟩:=⟨λg t v C f j=>h.1 g t v C f (l.below.trans j),λf j=>h.2 f (l.below.trans j)⟩
structure Lq where
 j:Pos
 l:Nat
 lrec:Loop
 env:Env
 tmps:Array ø
def Ctx (f:List Lq)(φ:Gx)(w:æ):Prop:=∀q∈f,(∃l,φ.loc q.j 0=ä l∧l.b=q.l)∧w.heap[q.l]? = ä (.loop q.lrec)∧ER φ q.env q.tmps
def Ctx.more {g:List Lq}{R :Pos→EO}{j :æ}(r:Ctx g φ w)(C:Inv B W φ h w)(f:cr B φ h w ψ R j):Ctx g ψ j:=λq p=>by obtain⟨⟨l,P,J⟩,h3,h4⟩:=r q p;exact⟨⟨l,f.1.loc _ _ _ P,J⟩,(f.2.1 _ C.self).kp.keep _ _ h3 rfl,h4.mono f.1⟩
def bA (P:å)(f:ê):Prop:=∃fn,P.funcs[f]? = ä fn∧fn.body.isSome=ü∧(fn.name == "runtime.NumGoroutine")=ß
def JY (P:å)(t:Tgt)(φ:Gx)(w:æ)(r:List ø)(R:Ending→æ→Prop):Prop:=match t with
 |.fn f=>bA P f∧Calls P f r.toArray w R
 |.yld j=>∀l,φ.loc j 0=ä l→∀(ro:Option Nat) (n:Nat),∃f g assign p,(Instr.yield l.b r.toArray).run P w = .ok (.round l.b f g assign p) w∧RoundIn (RF ro) n P l.b f g assign p w R
def MC (B:Nat)(φ:Gx)(h:Pos→EO)(w:æ)(g:Pos→EO)(out:TV):Ending→æ→Prop:=λe f=>∃v ψ,e = .returned v∧cr B φ h w ψ g f∧RT ψ out v
def uD (P:å)(p:Glt)(B:Nat)(call:Ck)(j:List Lq):Prop:=∀b t args d n v g l,call b t args d n = .ok v g l→∀W φ w,sj p P B W→Inv B W φ (HP.ov b d).get w→∀f,RTs φ args f→Ctx j φ w→JY P t φ w f (MC B φ (HP.ov b d).get w (HP.ov b g).get v)
def TL (P:å)(C:Glt)(B:Nat)(p:Yk)(l:List Lq):Prop:=∀b j args d n v g r,p b j args d n = .ok v g r→∀W φ w,sj C P B W→Inv B W φ (HP.ov b d).get w→∀f,RTs φ args f→Ctx l φ w→JY P (.yld j) φ w f (MC B φ (HP.ov b d).get w (HP.ov b g).get v)
structure CkOk (P:å)(Gl:Glt)(B:Nat)(ck:Callk)(Γ:List Lq):Prop where
 call:uD P Gl B ck.call Γ
 iter:∀yk' Γ',TL P Gl B yk' Γ'→uD P Gl B (ck.iter yk') Γ'
section
variable {P:å}{Gl:Glt}{B:Nat}{W:W0}{φ:Gx}{h:Pos→EO}{w:æ}{o:ï}{a:Act}{e:Env}{nt:Nat}{ops:Array ï}{Γ:List Lq}
variable{fo:FO}{al:Bool}{ro:Option Nat}{n i:Nat}{out:TV}{wr:Option (Pos×EO)}{x:Src}{dst:Option Pos}{args:List Src}{g:Option (Pos×Bool)}{t:Tgt}{vs:List TV}
def TC (f:cOp P Gl nt ops.toList o = .op fo al):∃dst j,TD nt o.dst=ä dst∧BA ops.toList o.guard=ä fo.guard∧cK P Gl o.op=ä (fo.k,j)∧fo.args=j.map nC∧fo.dst=dst∧al=kAl fo.k:=by
 unfold cOp at f;split at f
 ·cases f
 next dst r=>
  split at f
  ·cases f
  next g p=>
   split at f
   next k j l=>injection f with h1 h2;subst h1;subst h2;exact⟨dst,j,r,p,l,rfl,rfl,rfl⟩
   ·split at f
    ·split at f <;> cases f
    ·split at f <;> cases f
    ·cases f
def OB (hi:ops[i]? = ä o)(hc:cOp P Gl nt ops.toList o = .op fo al)(U:Inv B W φ h w)(hG:sj Gl P B W)(hE:ER φ e a.tmps)(p:fw ro o){f:Pos}(hf:al=ü→h f = .none)(g:j7 e h f fo=ä (out,wr))
  {Q:î→Act→æ→Prop} {K:Act→æ→Prop} (T:∀ψ v j,cr B φ h w ψ (sL h wr) j→RT ψ out v→K (a.put o.dst v) j):wpOpIn (RF ro) n P ops Q i K a w:=by
 obtain⟨dst,xs,_,hg,hk,l,_,C⟩:=TC hc;unfold wpOpIn;simp[hi];unfold j7 at g;split at g
 next b hb=>
  rw[Gu hE hg hb];cases b with
  |false =>cases g;simp;exact⟨λ_ _=>trivial,T φ undef w cr.refl sM⟩
  |true =>simp;refine wW p ?_;have R:=ui hE xs;rw[←l]at R;obtain⟨h1,h2⟩:=acR (hG.more U (ψ:=φ)) U.self hk (λh'=>hf (by rw[C,h'])) R g;refine h1 K Q λv ψ j r J hr=>T ψ v j (uU r J (Zg h2)) hr
 ·cases g
def Mn (f:cOp P Gl nt ops.toList o = .nxt x dst):∃j,o.op = .next j ß∧x=nC j∧TD nt o.dst=ä dst∧o.guard=none:=by
 unfold cOp at f;split at f
 ·cases f
 next dst' p=>
  split at f
  ·cases f
  next g hg=>
   split at f
   ·cases f
   ·split at f
    ·split at f <;> cases f
    ·rename_i j l;split at f
     ·injection f with h1 h2;subst h1;subst h2;refine⟨j,l,rfl,p, ?_⟩;unfold BA at hg;split at hg
      ·assumption
      ·split at hg
       ·split at hg
        ·cases hg
        ·cases hg
       ·cases hg
     ·cases f
    ·cases f
def OS {h:Pos→EO}{t:TV}{k:Pos}{j:EO}(f:FI h t=ä (out,ä (k,j))):iE j=false:=by
 unfold FI at f;split at f
 ·split at f
  ·simp only[ι,C']at f;cases f.2
  next m since seen sp hk=>
   split at f
   ·rename_i l clock r;split at f
    ·cases g:(seen.isEmpty||l.isEmpty||l.any (λe=>Nat.blt e.born sp))with
     |false=>rw[g]at f;cases f
     |true=>rw[g]at f;simp only[U',ι,C']at f;cases f.2
    ·rename_i x p;cases g:(Nat.blt x.born since&&Nat.blt x.born sp)with
     |false=>rw[g]at f;cases f
     |true =>rw[g]at f;cases f;rfl
    ·cases f
   ·cases f
  ·cases f
 ·cases f
def Xh (R:ops[i]? = ä o)(U:cOp P Gl nt ops.toList o = .nxt x dst)(hI:Inv B W φ h w)(hE:ER φ e a.tmps)(j:fw ro o)(r:FI h (bm e x)=ä (out,wr))
  {Q:î→Act→æ→Prop} {K:Act→æ→Prop} (hK:∀ψ v f,cr B φ h w ψ (sL h wr) f→RT ψ out v→K (a.put o.dst v) f):wpOpIn (RF ro) n P ops Q i K a w:=by
 obtain⟨C,g,rfl,_,T⟩:=Mn U;unfold wpOpIn;simp[R];rw[Θ (by simp[Region.wanted,T])];refine wW j ?_;refine(aeo hI.self g (mB hE C) r).1 K Q λv ψ f l p J=>hK ψ v f (uU l p (Zg λk o' e=>by subst e;exact OS r)) J
def An (j:cOp P Gl nt ops.toList o = .call args dst g):∃cl f,o.op = .call cl∧cl.callee = .value f∧args=(f::cl.args.toList).map nC∧TD nt o.dst=ä dst∧BA ops.toList o.guard=ä g:=by
 unfold cOp at j;split at j
 ·cases j
 next dst' C=>
  split at j
  ·cases j
  next g' r=>
   split at j
   ·cases j
   ·split at j
    ·rename_i cl l;split at j
     next f p=>injection j with h1 h2 h3;subst h1;subst h2;subst h3;exact⟨cl,f,l,p,Ψ,C,r⟩
     ·cases j
    ·split at j <;> cases j
    ·cases j
def z7 (hI:Inv B W φ h w){args:List TV}(R:cI h args=ä (t,vs)){us:List ø}(hr:RTs φ args us):∃f U,us=f::U∧match t with
  |.fn g=>∃first J,f = .func (.func g) first J∧RTs φ vs (first.toList++U++J.toList)
  |.yld j=>∃l,φ.loc j 0=ä l∧f = .func (.yield l.b) #[] #[]∧RTs φ vs U:=by
 unfold cI at R;split at R
 next f r=>cases R;obtain⟨v,ws,rfl,p,T⟩:=hr.cons;have p:ä (Value.func (.func f) #[] #[])=ä v:=p;injection p with p;exact⟨v,ws,rfl, #[], #[],p.symm,by simpa using T⟩
 next k r=>
  obtain⟨v,ws,rfl,p,T⟩:=hr.cons;have P:=hI.obj k;have p:den φ (.clo k)=ä v:=p;simp only at R;split at R
  next f first J hk=>
   cases R;rw[hk]at P;obtain⟨_,A,C,q1,q2,q3⟩:=P;simp[den,q3]at p;exact⟨v,ws,rfl,A.toArray,C.toArray,p.symm,by simpa using((MA q1).append T).append (MA q2)⟩
  next hk=>cases R;rw[hk]at P;obtain⟨_,l,q1,_,q3,_⟩:=P;simp[den,q3]at p;exact⟨v,ws,rfl,l,q1,p.symm,T⟩
  ·cases R
 ·cases R
def G6 (hi:ops[i]? = ä o)(hc:cOp P Gl nt ops.toList o = .call args dst g)(hgd:gd e g=ä ü)(hI:Inv B W φ h w)(hE:ER φ e a.tmps)(hnd:fw ro o)(he:cI h (aT e args)=ä (t,vs)){h':Pos→EO}
  (hck:∀us,RTs φ vs us→JY P t φ w us (MC B φ h w h' out)) {Q:î→Act→æ→Prop} {K:Act→æ→Prop} (hK:∀ψ v w',cr B φ h w ψ h' w'→RT ψ out v→K (a.put o.dst v) w'):wpOpIn (RF ro) n P ops Q i K a w:=by
 obtain⟨cl,f,hop,hcl,rfl,_,hg⟩:=An hc;unfold wpOpIn;simp[hi];rw[Gu hE hg hgd,Θ rfl];obtain⟨fv,xs,hus,ht⟩:=z7 hI he (ui hE (f::cl.args.toList));simp at hus;obtain⟨hf,hxs⟩:=hus;have post:∀e w',MC B φ h w h' out e w'→∃v,e = .returned v∧K (a.put o.dst v) w':=λe w' hr=>by obtain⟨v,ψ,h1,h2,h3⟩:=hr;exact⟨v,h1,hK ψ v w' h2 h3⟩
 cases t with
 |fn f'=>
  obtain⟨first,caps,h1,h2⟩:=ht;obtain⟨⟨fn,f1,f2,f3⟩,hcalls⟩:=hck _ h2;have hbody:¬fn.body=none:=by cases hb:fn.body <;> simp_all
  have f3:¬fn.name = "runtime.NumGoroutine":=by simpa using f3
  have hrun:(ë a.eval o).run P w = .ok (.enter f' (first.toList++xs++caps.toList).toArray) w:=by
   have e2:first++cl.args.map a.eval++caps=(first.toList++xs++caps.toList).toArray:=D_ (by simp[hxs])
   unfold ë;simp[hop,resolve,hcl,hf,h1,Deferred.ofValue,π,n_,invoke,callFunc,p?,f1,e2];simp[f3,hbody]
  refine wW hnd ?_;unfold Oper.wp;rw[hrun];refine hcalls.mono ?_;intro e w' hr;obtain⟨v,rfl,hk⟩:=post e w' hr;exact hk
 |yld j=>
  obtain⟨l,h1,h2,h3⟩:=ht;obtain⟨f',tmps,assign,body,hy,hround⟩:=hck _ h3 l h1 ro (n-1);have hrun:(ë a.eval o).run P w = .ok (.round l.b f' tmps assign body) w:=by have e2:cl.args.map a.eval=xs.toArray:=D_ (by simp[hxs]);unfold ë;simp[hop,resolve,hcl,hf,h2,Deferred.ofValue,π,n_,invoke,e2,hy]
  refine⟨λ_ _=>trivial, ?_⟩;have es:o.semAt (RF ro).round a.eval=ë a.eval o:=by
   obtain rfl|hd:=hnd
   ·rfl
   ·exact Oper.semAt_eq _ _ _ hd
  rw[es,hrun,Oper.uponIn_round];refine⟨(λq=>by cases q),hround.mono ?_⟩;intro e w' hr;obtain⟨v,rfl,hk⟩:=post e w' hr;exact hk
def Ey (p:ops[i]? = ä o)(J:cOp P Gl nt ops.toList o = .call args dst g)(j:gd e g=ä ß)(T:ER φ e a.tmps)
  {Q:î→Act→æ→Prop} {K:Act→æ→Prop} (R:K (a.put o.dst undef) w):wpOpIn (RF ro) n P ops Q i K a w:=by
 obtain⟨cl,f,l,C,rfl,_,r⟩:=An J;unfold wpOpIn;simp[p];rw[Gu T r j];simp;exact⟨λ_ _=>trivial,R⟩
end
variable [SymVal]
structure Rl (B lo:Nat)(U:Gx)(h0:Pos→EO)(T:æ)(nt:Nat)(e:Env)(h:Pos→EO)(a:Act)(w:æ):Prop where
 ex:∃φ,cr B U h0 T φ h w∧ER φ e a.tmps
 sz:a.tmps.size=nt
 df:∃ms:List Nat,a.defers=ms.map (λD=>{ target :=.collected D,args :=#[] })∧ms.Nodup∧∀D∈ms,lo≤D∧w.heap[D]? = ä (.deferred (ä []))
def EB (b:HP)(d:DM)(wr:Option (Pos×EO)):(HP.ov b (sX d wr)).get=sL (HP.ov b d).get wr:=by
 cases wr with
 |none=>rfl
 |some p=>exact HP.cf b d p.1 p.2
section
variable {P:å}{Gl:Glt}{B lo:Nat}{W:W0}{U:Gx}{h0:Pos→EO}{T:æ}{nt:Nat}{ops:Array ï}{Γ:List Lq}{ck:Callk}
def Rl.step (j:Inv B W U h0 T){e:Env}{h:Pos→EO}{a:Act}{w:æ}(r:Rl B lo U h0 T nt e h a w){φ ψ:Gx}{J:Pos→EO}{l:æ}(p:cr B U h0 T φ h w)(hE:ER φ e a.tmps)(f:cr B φ h w ψ J l){d:Option Tmp}{g:Option Pos}(hd:TD nt d=ä g){out:TV}{v:ø}(R:RT ψ out v):Rl B lo U h0 T nt (aV e g out) J (a.put d v) l:=by obtain⟨h1,h2⟩:=dW (hE.mono f.1) r.sz hd R;obtain⟨P,m1,m2,m3⟩:=r.df;refine⟨⟨ψ,p.trans f,h1⟩,h2,P, ?_,m2,λD C=>⟨(m3 D C).1,(f.2.1 _ (p.2.1 _ j).self).kp.keep _ _ (m3 D C).2 rfl⟩⟩;cases d <;> exact m1
def jY (B lo:Nat)(U:Gx)(h0:Pos→EO)(T:æ)(nt:Nat)(e:Env)(h:Pos→EO):î→Act→æ→Prop
 |.normal,a,w=>Rl B lo U h0 T nt e h a w
 |_,_,_=>False
def bt {ro:Option Nat}{n:Nat}(j:Inv B W U h0 T)(hG:sj Gl P B W)(C:CkOk P Gl B ck Γ)(hcx:Ctx Γ U T)(hnd:∀o∈ops.toList,fw ro o){b:HP}{e':Env}{d':DM}{n':Pos}{Q:î→Act→æ→Prop}(hQ:∀a w,Rl B lo U h0 T nt e' (HP.ov b d').get a w→Q .normal a w):∀(l:List ï) (i:Nat) (e:Env) (d:DM) (f:Pos) (a:Act) (w:æ),ops.toList.drop i=l →
  aQ ck b (mI P Gl nt ops.toList l) e d f = .ok e' d' n'→Rl B lo U h0 T nt e (HP.ov b d).get a w→wpOpsIn (RF ro) n P ops Q (List.range' i (ops.size-i)) a w
 |[],i,e,d,f,a,w,hd,h,hr=>by
  have hsz:ops.size-i=0:=by have:=l_ List.length hd;simpa using this
  rw[hsz];simp only[mI,aQ]at h;injection h with h1 h2 h3;subst h1;subst h2;exact hQ _ _ hr
 |o::l,i,e,d,f,a,w,hd,h,hr=>by
  have hlt:i<ops.size:=by have:=l_ List.length hd;simp at this;omega
  have R:ops[i]? = ä o:=by
   have:(ops.toList.drop i)[0]? = ä o:=by rw[hd];rfl
   rw[o_]at this;simpa using this
  have hd':ops.toList.drop (i+1)=l:=by rw[←List.drop_drop,hd];rfl
  have hno:fw ro o:=hnd o (z_.2 (q? R));rw[show ops.size-i=(ops.size-(i+1))+1 by omega,e?,wpOpsIn_cons];obtain⟨φ,hs,hE⟩:=hr.ex;have hI:=hs.2.1 _ j;simp[mI,aQ]at h;split at h
  next fo al hc=>
   obtain⟨dst,xs,p,_,_,_,hfd,_⟩:=TC hc;cases J:bz al (HP.ov b d).get f with
   |false=>rw[J]at h;cases h
   |true=>
    rw[J,U']at h;split at h
    ·rename_i out wr hst;have hf:al=ü→(HP.ov b d).get f = .none:=λhal=>by
      subst hal;unfold bz at J;simp only at J;split at J
      next hn=>exact hn
      ·cases J
     refine OB R hc hI hG hE hno hf hst λψ v w' r hv=>?_;have:=hr.step j hs hE r p hv;rw[←EB]at this;rw[hfd]at h;exact bt j hG C hcx hnd hQ l (i+1) _ _ _ _ w' hd' h this
    ·cases h
  next args dst g hc=>
   obtain⟨_,_,_,_,_,p,_⟩:=An hc;split at h
   ·rename_i hg;split at h
    ·rename_i t vs hen;split at h
     next out d1 n1 hcall=>refine G6 R hc hg hI hE hno hen (λus hus=>C.call _ _ _ _ _ _ _ _ hcall W φ w hG hI us hus (hcx.more j hs)) λψ v w' r hv=>?_;exact bt j hG C hcx hnd hQ l (i+1) _ _ _ _ w' hd' h (hr.step j hs hE r p hv)
     ·cases h
    ·cases h
   next hg=>refine Ey R hc hg hE ?_;exact bt j hG C hcx hnd hQ l (i+1) _ _ _ _ w hd' h (hr.step j hs hE cr.refl p sM)
   ·cases h
  next x dst hc=>
   obtain⟨_,_,_,p,_⟩:=Mn hc;split at h
   next out wr hst=>refine Xh R hc hI hE hno hst λψ v w' r hv=>?_;have:=hr.step j hs hE r p hv;rw[←EB]at this;exact bt j hG C hcx hnd hQ l (i+1) _ _ _ _ w' hd' h this
   ·cases h
  ·cases h
end
