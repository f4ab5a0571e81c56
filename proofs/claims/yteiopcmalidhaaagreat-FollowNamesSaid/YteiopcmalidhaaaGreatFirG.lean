/- The first commit of a history. -/
import Derived.Test.YteiopcmalidhaaaGreatFirD
import Derived.Test.YteiopcmalidhaaaGreatFirE
import Derived.Test.YteiopcmalidhaaaGreatFirF
set_option linter.all false
namespace Go.Proofs.YteiopcmalidhaaaGreat
namespace Clo
open Go Go.RowKit Tryz
theorem Yu {x:Abs.tCommit.den}{r:RC}(h:vU x r=true):∃v d n,r = .ok v d n∧GO (HP.ov .nil d).get Abs.tCommit x v=true:=by
 cases r with
 |no=>cases h
 |ok v d n=>exact⟨v,d,n,rfl,h⟩
theorem ah1 (x:Int):∃k:Nat,k<8∧Abs.mod2_ev x 8=some (Int.ofNat k):=by
 have e:Abs.mod2_ev x 8=some (Int.tmod (Abs.w64 (Int.tmod x 8+8)) 8):=rfl;have l:Int.tmod x 8<8:=aiF x Ϛ;have j : -8<Int.tmod x 8:=by have:=aiF (-x) (b:=8) Ϛ;rw[Int.neg_tmod]at this;omega
 have g:Abs.w64 (Int.tmod x 8+8)=Int.tmod x 8+8:=by unfold Abs.w64;rw[IntKind.wrap_i64];omega
 rw[g]at e;generalize Int.tmod x 8=y at *;have f:Int.tmod (y+8) 8=(y+8)%8:=Int.tmod_eq_emod_of_nonneg Ω;rw[f]at e;refine⟨((y+8)%8).toNat,Ω, ?_⟩;rw[e];congr 1;exact(Int.toNat_of_nonneg Ω).symm
theorem O1 {w f:World}(h:Below w.heap.size w f):w.grownBy f none:=⟨h.os,h.tape,h.output,h.size,λk g _=>h.block k g⟩
section
variable [SymVal]
theorem Vu {x:Int}{k:Nat}(j:SymVal.v 0 = .int .i64 x)(P:Abs.mod2_ev x 8=some (Int.ofNat k))(r:Gx)(g:List Value)(w:World)(J:RTs r [.pv (.one (.sym 0)),.pv (.one (.int .i64 8))] g) :
  bE prog 31∧Calls prog 31 g.toArray w λe f=>∃u,e = .returned u∧RT r (.pv (.one (.int .i64 (Int.ofNat k)))) u∧w.grownBy f none∧dz w≤dz f:=by
 have C:Abs.MeetsD prog 31 [⟨Abs.tInt,x⟩,⟨Abs.tInt,8⟩] (.val Abs.tInt (Int.ofNat k)):=Abs.meets_of_ent Abs.mod2_x (by
  show some ((Abs.mod2_ev x 8).isSome,Abs.AV.val Abs.tInt ((Abs.mod2_ev x 8).getD (Abs.zero Abs.tInt)))=_;rw[P];rfl)
 refine⟨C.1, ?_⟩;match g,J with
 |[a,b],⟨p,l,_⟩ =>have p:some (SymVal.v 0)=some a:=p;have l:some (Value.int .i64 8)=some b:=l;obtain rfl:=π p;obtain rfl:=π l;rw[j];refine(C.2 w ⟨λ_ _=>False,λ_ _ _ _=>False⟩ (λ_ _ h=>h.elim) [.int .i64 x,.int .i64 8] ⟨(Abs.repv_cell rfl).2 ⟨rfl,rfl⟩,(Abs.repv_cell rfl).2 ⟨rfl,rfl⟩,ans⟩).mono ?_;rintro e f ⟨v,St',rfl,T,R,_,_,_,j⟩;refine⟨v,rfl, ?_,O1 T,R⟩;obtain⟨u,e1,e2⟩:=j;cases e1;obtain⟨U,_⟩:=(Abs.repv_cell rfl).1 e2;cases U;exact rfl
end
theorem jL {x:Int}{k:Nat}(J:Abs.mod2_ev x 8=some (Int.ofNat k)){r:Tb}(l:∀ [SymVal],rK prog gl0 r){y:Abs.tCommit.den}(f:vU y (mkR (xB 31 [.pv (.one (.sym 0)),.pv (.one (.int .i64 8))] (.pv (.one (.int .i64 (Int.ofNat k)))) r) (gK prog gl0) 1000 100 noY .nil (.fn 28) [.pv (.one (.sym 0))] .leaf .e)=true):Abs.MeetsD prog 28 [⟨Abs.tInt,x⟩] (.val Abs.tCommit y):=by
 letI:SymVal:=⟨λ_=>.int .i64 x,λ_=>rfl,λ_=>True⟩
 obtain⟨v,d,n,p,P⟩:=Yu f;refine yx (λ_=>trivial) Abs.follows (Ps (λC g w _ p=>Vu (x:=x) rfl J C g w p) l) (ds:=[⟨Abs.tInt,x⟩]) (λw St g j=>?_) p P ⟨_,func28,by kernel_rfl,by kernel_rfl⟩;match g,j with
 |[u],⟨h,_⟩ =>obtain⟨R,_⟩:=(Abs.repv_cell rfl).1 h;cases R;exact abw 0
theorem first_meets (x:Int):Abs.MeetsD prog 28 [⟨Abs.tInt,x⟩] (.val Abs.tCommit (Abs.firstF x)):=by
 obtain⟨k,g,f⟩:=ah1 x;have e:Abs.firstF x=Abs.fstL (Int.ofNat k):=by unfold Abs.firstF;rw[f];rfl
 rw[e];match k,g with
 |0,_=>exact jL f (bS) Zn
 |1,_=>exact jL f (bS) Zm
 |2,_=>exact jL f (bS) Zl
 |3,_=>exact jL f (bS) Zk
 |4,_=>exact jL f (bS) Zj
 |5,_=>exact jL f (bS) Zi
 |6,_=>exact jL f (cA Abs.follows bS Fir.e76_479_ok bS) Zh
 |7,_=>exact jL f (bS) Zg
end Clo
namespace Abs
open Tryz
theorem Ze:ai prog 28 N2:=ol λx _=>Clo.first_meets x
end Abs
