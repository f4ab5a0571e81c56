/- Parts. -/
import Derived.Test.YtfgpipfjalmooaaGreatKpD
import Derived.Deep.LoopGhost
import Derived.Laws.OwnMore
import Derived.Laws.AppendOwnNone
set_option linter.all false
namespace Go.Proofs.YtfgpipfjalmooaaGreat
namespace Abs
open Go Go.Proofs Go.RowKit Go.Maps Go.Shelf Go.WideElems Go.MapKept Tryz
open Go.ChangeMaps (setBlock heap_setBlock_same)
open Go.ChangeShapes (lits)
attribute [local go_sem] Oper.semAt_some
open Go.ChangeMaps (setBlock heap_setBlock_same)
open Go.ChangeShapes (lits)
inductive RchK (all:List WK)(ws:List Int):Int→Prop
 |root {x:Int}:x∈ws→HU all x=true→RchK all ws x
 |step {p x:Int}:RchK all ws p→x∈ahJ all p→RchK all ws x
def yl (f:List Int)(P:Int→Prop):Prop:=f.Pairwise (λx y=>x<y)∧∀x,x∈f↔P x
attribute [local go_sem] Oper.semAt_some
theorem ag2 (m:Nat):AnyZI.SortsIn prog sortZ_ren Fence.wide m :=
 ⟨λl g cap ss W r f j=>callsIn_wide.2 (AnyM.slices_Sort_int sortI l g cap ss W r f j),
  λp cap W=>callsIn_wide.2 (AnyM.slices_Sort_int_none sortI p cap W)⟩
theorem Sp (n:Nat)(p:n=7)(b:Nat)(W:World)(P:List Int→Prop)(N:Nat)(R:N≤maxLen)(J:N*8≤140737488355328)(f:SeqGives Fence.wide 4 prog 63 #[.pointer (some ⟨b,0,none⟩)] encZ P N W) :
  CallsIn Fence.wide n prog 30 #[.func (.func 63) #[] #[.pointer (some ⟨b,0,none⟩)]] W λe j=>∃v ss,e = .returned v∧P ss∧j.ownsRow W.heap.size 3 1 v ss.length (intsI (ss.mergeSort λx y=>decide (x≤y)))∧Below W.heap.size W j:=by
 subst p;have l:=AnyZI.sorted_in sortZ Fence.wide 7 trivial trivial trivial trivial rfl Ω (ag2 _) (enters_of func36 Φ rfl) 63 #[.pointer (some ⟨b,0,none⟩)] trivial (enters_of func63 Φ rfl) P N R J W f;change CallsIn _ _ prog 30 _ _ _ at l;refine l.mono ?_;rintro e j ⟨v,ss,rfl,C,g,_,r⟩;exact⟨v,ss,rfl,C,g,r⟩
attribute [local go_sem] Oper.semAt_some
def GM (f:List WK)(x:Int):Bool:=f.any λy=>y.id == x&&(y.fd == 1&&y.nn == 5)
def GZ (K:Int→Bool)(f:List WK)(x:Int):Bool:=f.any λy=>y.rf == x&&(y.fd == 4&&(K y.id && !(y.rf == 0)))
def abL (K N M:Int→Bool)(x:WK):Bool :=
 if x.fd=1∨x.fd=2 then K x.id||(!N x.id||M x.id)else if x.fd=3 then K x.id || !N x.id else if x.fd=4 then K x.id||M x.id else K x.id
attribute [local go_sem] Oper.semAt_some
attribute [local go_sem] Oper.semAt_some
