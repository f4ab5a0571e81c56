/- The two sentinels of errors that. -/
import Derived.Test.YthfdnklcgfkjoaaGreatDoorRunB
import Derived.Test.YthfdnklcgfkjoaaGreatDoorRunC
import Derived.Test.YthfdnklcgfkjoaaGreatDoorRunD
import Derived.Test.YthfdnklcgfkjoaaGreatDoorRunE
import Derived.Test.YthfdnklcgfkjoaaGreatDoorRunF
import Derived.Test.YthfdnklcgfkjoaaGreatDoorRunG
import Derived.Test.YthfdnklcgfkjoaaGreatDoorErrA
import Derived.ProofKit
import Derived.Stop.Joined
import Derived.Stop.LaidTwo
set_option linter.all false
noncomputable section
namespace Go.Proofs.YthfdnklcgfkjoaaGreatDoor.Clo
open Go Go.RowKit Tryz
def tbMain:Tb:=mh alx (mh Yb (mh SG (mh SE (mh SC alJ))))
def ajG (r:RC):Bool:=RC.rec (motive:=λ_=>Bool) false (λv _ _=>abZ v (.pv (.one (.bl true)))) r
theorem awake_run:ajG (mkR tbMain (fiOf prog gl) 1000 100 noY .nil (.fn 10) [] .leaf .e)=true:=Φ
theorem tbMain_ok [SymVal](f:prog.follows .mixedOrders=true)(g:yX prog gl alJ):yX prog gl tbMain:=(fT f noTb_ok aeY (fT f noTb_ok VR (fT f (fT f noTb_ok Oa (fT f noTb_ok Ob (fT f noTb_ok Oc g))) SF (fT f noTb_ok SD (fT f noTb_ok SB g)))))
end Go.Proofs.YthfdnklcgfkjoaaGreatDoor.Clo
namespace Go.Proofs.YthfdnklcgfkjoaaGreatDoor.Err
open Go Go.Proofs Go.RowKit Tryz
structure Sen (f j:Addr)(w:World):Prop where
 g0:w.cell? ⟨0,0,none⟩=some (.iface 354 (.pointer (some f)))
 g1:w.cell? ⟨1,0,none⟩=some (.iface 354 (.pointer (some j)))
 two:Two f j w
variable{w:World}{v:Value}{f j:Addr}
theorem af9 {k:Nat}{o:Obj}(h:w.heap[k]? = some o):k<w.heap.size:=by
 obtain q|q:=T' k w.heap.size
 ·exact q
 ·simp[arV q]at h
theorem EU {p:Addr}(h:w.cell? p=some v):p.block<w.heap.size:=by
 obtain q|q:=T' p.block w.heap.size
 ·exact q
 ·simp[World.cell?,arV q]at h
theorem Sen.below {w' :World}(h:Sen f j w)(g:Below w.heap.size w w'):Sen f j w':=by obtain⟨h0,h1,hne,⟨p,l,r0⟩,c1,t1,r1⟩:=h;exact⟨(g.cell (EU h0)).trans h0,(g.cell (EU h1)).trans h1,hne,⟨p,l,(g.block _ (af9 r0)).trans r0⟩,c1,t1,(g.block _ (af9 r1)).trans r1⟩
theorem HF [Clo.SymVal]{g:Nat}(h:w.cell? ⟨g,0,none⟩=some (.iface 354 v)):(Instr.loadAt 120 (.pointer (some ⟨g,0,none⟩))).run prog w = .ok (.iface 354 v) w:=by have f:(isAgg 120).run prog w = .ok false w:=Clo.run_isAgg (by rw[underlying120];rfl) w;simp[Instr.loadAt,Instr.sureAddr,loadVar,f,h]
theorem arh (h:Sen f j w):let _:=two f j;Clo.GlOk Clo.gl prog w.heap.size ⟨w,Clo.φN⟩:=by
 intro _;refine⟨λg t v l C p=>?_,λC p=>(h.below p).two⟩;have r:=h.below p;unfold Clo.gl at l;split at l
 next ht=>
  obtain rfl:=κ ht;split at l <;> first
   |(cases l;exact HF r.g0)
   |(cases l;exact HF r.g1)
   |cases l
 ·cases l
theorem awake_ok:∀w,Sen f j w→Calls prog 10 #[] w λe g=>e = .returned (.bool true)∧Below w.heap.size w g:=λw J=>by
 letI:=two f j
 have l:prog.follows .mixedOrders=true:=Φ
 have h:=Clo.awake_run;generalize C:Clo.mkR Clo.tbMain (Clo.fiOf prog Clo.gl) 1000 100 Clo.noY .nil (.fn 10) [] .leaf .e=r at h;cases r with
 |no=>cases h
 |ok v d n =>have ev:v = .pv (.one (.bl true)):=Clo.tvEq_eq h;subst ev;obtain⟨_,P⟩:=Clo.closedT_sound l (Clo.tbMain_ok l (amX f j Clo.noTb Clo.gl Clo.noTb_ok)) C w (arh J);refine P.mono ?_;rintro e g ⟨u,T,rfl,R,p⟩;exact⟨by rw[Clo.rt_bl p],R.below⟩
end Go.Proofs.YthfdnklcgfkjoaaGreatDoor.Err
