/- The first commits 6 and 7. -/
import Derived.Test.YteiopcmalidhaaaGreatFirC
set_option linter.all false
noncomputable section
namespace Go.Proofs.YteiopcmalidhaaaGreat
namespace Clo.Fir
open Go Go.RowKit Tryz
def psF (f:Nat):Nat→Pos:=Nat.rec (motive:=λ_=>Nat→Pos) (λ_=>.e) (λ_ g n=>Nat.rec (motive:=λ_=>Pos) .e (λm _=>Bool.rec (motive:=λ_=>Pos) (.i (g (Nat.div m 2))) (.o (g (Nat.div m 2))) (Nat.beq (Nat.mod m 2) 0)) n) f
def ps (n:Nat):Pos:=psF 40 n
def Y:DM :=.leaf
section
def I (n:Nat):CV:=.int .i64 (.ofNat n)
def M (n:Nat):CV:=.int .i64 (.ofNat (Nat.add 1048576 n))
def q (a k n:Nat)(s:List Nat)(r:Nat):List CV:=[M a,I k,I n,.bl false,.str s,match r with |0=>I 0 |r+1=>M (r+1)]
def ev:List Ch→List Ch |[]=>[] |[x]=>[x] |x::_::l=>x::ev l
def pt:Nat→List Ch→PT Ch |0,_=>.leaf |_,[]=>.leaf |n+1,x::l=>.node (pt n (ev l)) x (pt n (ev l.tail))
def ch (z:Nat):Nat→List (List CV)→List Ch |_,[]=>[] |i,x::l=>⟨x,Nat.mul z i⟩::ch z (Nat.succ i) l
def W (z e s:Nat)(l:List (List CV))(n g:Nat)(f:Fz):EO:=.row e s (pt 40 (ch z 0 l)) n g f
def V (m:List Nat)(e s:Nat)(l:List (List CV))(n g:Nat)(f:Fz):EO:=.row e s (pt 40 (l.zipWith Ch.mk m)) n g f
def H (l:List (Nat×EO)):DM:=l.foldr (λx d=>PM.set none (ps x.1) d (some x.2)) .leaf
def r0:List CV:=[.str []]
def r1:List CV:=[.str [32]]
def r8:EO:=W 1 9 1 [r0,r0] 2 1 .no
def r9:EO:=W 0 9 1 [r1] 1 0 .no
def r10:EO:=W 1 9 1 [r1,r0,r0] 3 2 .no
def r11:EO:=W 0 9 1 [r0] 1 0 .no
def e76_479:Ent:=⟨86,[.pv (.one (.sl (ps 477) 0 0 1 none))],ps 479,H [(204,W 1 9 1 [r0,r1,r0] 3 2 .no),(211,W 1 119 4 [[I 2,.str [102],.sl (ps 215) 5 0 6 none,.sl (ps 239) 2 0 3 none],[I 2,.str [103],.sl (ps 302) 6 0 7 none,.sl (ps 326) 3 0 4 none]] 2 1 .no),(215,W 1 9 1 [r1,r1,r0,r0,r0,r1] 6 5 .no),(228,r8),(233,W 0 119 4 [[I 5,.str [],.sl (ps 237) 0 0 1 (some 1),.nils]] 1 0 .no),(237,r9),(239,W 1 119 4 [[I 4,.str [120],.sl (ps 228) 1 0 2 none,.sl (ps 233) 0 0 1 none],[I 5,.str [],.sl (ps 251) 0 0 1 (some 1),.nils],[I 21,.str [42],.sl (ps 288) 0 0 1 (some 1),.sl (ps 289) 0 0 2 (some 2)]] 3 2 .no),(251,r9),(263,r10),(275,r11),(278,W 0 119 4 [[I 12,.str [120],.sl (ps 275) 0 0 1 none,.nils]] 1 0 .no),(280,W 0 119 4 [[I 17,.str [],.nils,.sl (ps 278) 0 0 1 (some 1)]] 1 0 .no),(288,r9),(289,W 0 119 4 [[I 16,.str [102],.sl (ps 263) 2 0 3 none,.sl (ps 280) 0 0 1 none],[I 10,.str [50],.sl (ps 295) 0 0 1 none,.nils]] 2 0 .no),(295,r9),(302,W 1 9 1 [r1,r1,r0,r0,r0,r1,r0] 7 6 .no),(315,r8),(320,W 0 119 4 [[I 5,.str [],.sl (ps 324) 0 0 1 (some 1),.nils]] 1 0 .no),(324,r9),(326,W 1 119 4 [[I 4,.str [120],.sl (ps 315) 1 0 2 none,.sl (ps 320) 0 0 1 none],[I 4,.str [121],.sl (ps 336) 1 0 2 none,.sl (ps 341) 0 0 1 none],[I 7,.str [],.sl (ps 359) 0 0 1 (some 1),.nils],[I 21,.str [60],.sl (ps 396) 0 0 1 (some 1),.sl (ps 397) 0 0 2 (some 2)]] 4 3 .no),(336,W 1 9 1 [r1,r0] 2 1 .no),(341,W 0 119 4 [[I 5,.str [],.sl (ps 345) 0 0 1 (some 1),.nils]] 1 0 .no),(345,r9),(359,r9),(371,r10),(383,r11),(386,W 0 119 4 [[I 12,.str [120],.sl (ps 383) 0 0 1 none,.nils]] 1 0 .no),(388,W 0 119 4 [[I 17,.str [],.nils,.sl (ps 386) 0 0 1 (some 1)]] 1 0 .no),(396,r9),(397,W 0 119 4 [[I 16,.str [102],.sl (ps 371) 2 0 3 none,.sl (ps 388) 0 0 1 none],[I 16,.str [102],.sl (ps 403) 2 0 3 none,.sl (ps 441) 0 0 1 none]] 2 0 .no),(403,r10),(415,W 1 9 1 [r0,r0,r0] 3 2 .no),(427,r11),(430,W 0 119 4 [[I 12,.str [121],.sl (ps 427) 0 0 1 none,.nils]] 1 0 .no),(432,W 0 119 4 [[I 17,.str [],.nils,.sl (ps 430) 0 0 1 (some 1)]] 1 0 .no),(439,W 0 119 4 [[I 16,.str [102],.sl (ps 415) 2 0 3 none,.sl (ps 432) 0 0 1 none]] 1 0 .no),(441,W 0 119 4 [[I 17,.str [],.nils,.sl (ps 439) 0 0 1 (some 1)]] 1 0 .no),(477,W 0 119 4 [[I 1,.str [77],.sl (ps 204) 2 0 3 none,.sl (ps 211) 1 0 2 none]] 1 0 .no)],.pv (.one (.bl true)),Y,ps 1242⟩
end
theorem e76_479_ok:ai prog gl0 dT 1000 100 e76_479:=by intro r;kernel_rfl
end Clo.Fir
namespace Clo
open Go Go.RowKit Tryz
def aet:Tb:=xB 31 [.pv (.one (.sym 0)),.pv (.one (.int .i64 8))] (.pv (.one (.int .i64 (Int.ofNat 6)))) (av Fir.e76_479 dT)
theorem Zh:vU Abs.fst6 (mkR aet (gK prog gl0) 1000 100 noY .nil (.fn 28) [.pv (.one (.sym 0))] .leaf .e)=true:=by kernel_rfl
theorem Zg:vU Abs.fst7 (mkR (CU 7) (gK prog gl0) 1000 100 noY .nil (.fn 28) [.pv (.one (.sym 0))] .leaf .e)=true:=by kernel_rfl
end Clo
