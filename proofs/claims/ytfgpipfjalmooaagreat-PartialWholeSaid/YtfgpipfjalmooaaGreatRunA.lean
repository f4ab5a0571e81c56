/- Closed runs of this seat. -/
import Derived.KernelRfl
import Derived.Test.YtfgpipfjalmooaaGreatAwkT
set_option linter.all false
noncomputable section
namespace Go.Proofs.YtfgpipfjalmooaaGreat
namespace Clo
open Go Go.RowKit
def gl:Glt:=gl0
section
def I (n:Nat):CV:=.int .i64 (.ofNat n)
def M (n:Nat):CV:=.int .i64 (.ofNat (Nat.add 1048576 n))
def q (a k n:Nat)(s:List Nat)(r:Nat):List CV:=[M a,I k,I n,.bl false,.str s,match r with |0=>I 0 |r+1=>M (r+1)]
def ev:List Ch→List Ch |[]=>[] |[x]=>[x] |x::_::l=>x::ev l
def pt:Nat→List Ch→PT Ch |0,_=>.leaf |_,[]=>.leaf |n+1,x::l=>.node (pt n (ev l)) x (pt n (ev l.tail))
def ch (z:Nat):Nat→List (List CV)→List Ch |_,[]=>[] |i,x::l=>⟨x,Nat.mul z i⟩::ch z (Nat.succ i) l
def W (z e s:Nat)(l:List (List CV))(n g:Nat)(f:Fz):EO:=.row e s (pt 40 (ch z 0 l)) n g f
def V (m:List Nat)(e s:Nat)(l:List (List CV))(n g:Nat)(f:Fz):EO:=.row e s (pt 40 (l.zipWith Ch.mk m)) n g f
def H (l:List (Nat×EO)):DM:=l.foldr (λx d=>PM.set none (ps x.1) d (some x.2)) .leaf
def agO:Ent:=⟨25,[.pv (.one (I 0))],ps 0,Y,.pv (.agg [M 18,.nils,.nils,.str [102,105,114,115,116],.sl (ps 1836) 68 0 69 none]),H [(1836,W 1 44 6 [q 1 1 1 [] 0,q 1 2 1 [] 0,q 1 3 0 [77] 0,q 1 9 0 [32] 0,q 1 10 0 [10] 0,q 2 1 2 [] 0,q 2 2 0 [105,114] 1,q 2 3 0 [102] 0,q 2 8 0 [10] 0,q 2 9 0 [32] 0,q 2 13 0 [32] 0,q 3 1 4 [] 0,q 3 2 0 [105,114] 2,q 3 3 0 [120] 0,q 4 1 5 [] 0,q 4 2 1 [] 3,q 4 4 5 [] 0,q 4 8 0 [32] 0,q 5 1 4 [] 0,q 5 2 0 [114,105] 2,q 5 3 0 [121] 0,q 5 8 0 [32] 0,q 6 1 5 [] 0,q 6 2 1 [] 5,q 6 4 5 [] 0,q 6 8 0 [32] 0,q 7 1 5 [] 0,q 7 2 1 [] 2,q 7 4 5 [] 0,q 7 8 0 [32] 0,q 8 1 5 [] 0,q 8 2 2 [] 2,q 8 4 21 [43] 0,q 8 8 0 [32] 0,q 9 1 5 [] 0,q 9 2 1 [] 8,q 9 4 12 [] 3,q 9 8 0 [32] 0,q 10 1 5 [] 0,q 10 2 2 [] 8,q 10 4 12 [] 5,q 10 8 0 [32] 0,q 11 1 2 [] 0,q 11 2 0 [114,105] 1,q 11 3 0 [103] 0,q 11 8 0 [10] 0,q 11 9 0 [32] 0,q 11 13 0 [32] 0,q 12 1 5 [] 0,q 12 2 1 [] 11,q 12 4 5 [] 0,q 12 8 0 [32] 0,q 13 1 5 [] 0,q 13 2 2 [] 11,q 13 4 16 [] 2,q 13 8 0 [32] 0,q 14 1 5 [] 0,q 14 2 0 [105,114] 13,q 14 4 17 [] 3,q 15 1 5 [] 0,q 15 2 1 [] 14,q 15 4 10 [49] 0,q 16 1 5 [] 0,q 16 2 0 [114,105] 13,q 16 4 17 [] 5,q 17 1 5 [] 0,q 17 2 1 [] 16,q 17 4 10 [50] 0,q 17 8 0 [32] 0] 69 68 .no)],ps 1974⟩
def Qb:Ent:=⟨75,[.pv (.agg [.sl (ps 3100) 42 0 43 none]),.pv (.one (M 2))],ps 3270,H [(3100,W 1 44 6 [q 1 1 1 [] 0,q 1 2 1 [] 0,q 1 3 0 [77] 0,q 2 1 2 [] 0,q 2 2 0 [105,114] 1,q 2 3 0 [102] 0,q 2 8 0 [10] 0,q 2 9 0 [32] 0,q 2 13 0 [32] 0,q 3 1 4 [] 0,q 3 2 0 [105,114] 2,q 3 3 0 [120] 0,q 4 1 5 [] 0,q 4 2 1 [] 3,q 4 4 5 [] 0,q 4 8 0 [32] 0,q 5 1 4 [] 0,q 5 2 0 [114,105] 2,q 5 3 0 [121] 0,q 5 8 0 [32] 0,q 6 1 5 [] 0,q 6 2 1 [] 5,q 6 4 5 [] 0,q 6 8 0 [32] 0,q 7 1 5 [] 0,q 7 2 1 [] 2,q 7 4 5 [] 0,q 7 8 0 [32] 0,q 8 1 5 [] 0,q 8 2 2 [] 2,q 8 4 21 [43] 0,q 8 8 0 [32] 0,q 9 1 5 [] 0,q 9 2 1 [] 8,q 9 4 12 [] 3,q 9 8 0 [32] 0,q 10 1 5 [] 0,q 10 2 2 [] 8,q 10 4 12 [] 5,q 10 8 0 [32] 0,q 11 1 2 [] 0,q 11 2 0 [114,105] 1,q 11 3 0 [103] 0] 43 42 .no)],.tup [.one (.str [10,100,101,102,32,102,40,120,58,32,73,110,116,44,32,121,58,32,73,110,116,41,58,32,73,110,116,32,61,32,120,32,43,32,121]),.one (.bl true)],Y,ps 4861⟩
end
