/- errors. -/
import Derived.Test.YthfdnklcgfkjoaaGreatDoorTabC
import Derived.Test.YthfdnklcgfkjoaaGreatDoorChecked
import Derived.WalkKit
import Derived.LaidEql
import Derived.Stop.Asserts
import Derived.RowKitTokens
set_option linter.all false
namespace Go.Proofs.YthfdnklcgfkjoaaGreatDoor.Err
open Go Go.Proofs Go.RowKit Go.Extern.Stop Go.Stop Go.Extern Tryz
def Rx (v:Value)(w:World):(Extern.ReflectliteType.typeOf #[.iface 354 v]).run prog w = .ok (.iface 204 (.agg #[.pointer (some ⟨3,354,none⟩)])) w:=Φ
def AP (w:World):((Extern.ReflectliteType.method λt=>do Rtype.noPackHeld "Comparable" t;Functor.map (λa=>Value.bool a.comparable) (typeInfo t)) #[.agg #[.pointer (some ⟨3,354,none⟩)]]).run prog w = .ok (.bool true) w:=Φ
def mZ (v:Value)(w:World):(Go.method 490 204 v "Comparable").run prog w = .ok (360,v) w:=Φ
def ad2:(prog.info? 354).map (·.comparable)=some true:=Φ
def adZ:(prog.info? 378).map (·.size)=some 1:=Φ
def aou (v:Value)(f:TypeId)(w:World):(Instr.typeAssert (.iface 354 v) f 206 true).run prog w = .ok (.tuple #[.nilIface,.bool false]) w:=run_typeAssert_lacksB underlying206 Φ Φ v f w
def ZY (v:Value)(f:TypeId)(w:World):(Instr.typeAssert (.iface 354 v) f 209 true).run prog w = .ok (.tuple #[.nilIface,.bool false]) w:=run_typeAssert_lacksB underlying209 Φ Φ v f w
def U4 (v:Value)(f:TypeId)(w:World):(Instr.typeAssert (.iface 354 v) f 211 true).run prog w = .ok (.tuple #[.nilIface,.bool false]) w:=run_typeAssert_lacksB underlying211 Φ Φ v f w
def ajF (a:Addr)(w:World) :
  Calls prog 66 #[.iface 354 (.pointer (some a)),.iface 354 (.pointer (some a))] w λe w'=>e = .returned (.bool true)∧w'=w:=by
 obtain⟨i,hi,hcmp⟩:=C?.1 ad2;obtain⟨j,hj,hjs⟩:=C?.1 adZ;have h8:=@run_callFunc_extern prog 107 _ Extern.ReflectliteType.typeOf func107 Φ Φ Φ Φ;have h32:=@run_callFunc_extern prog 360 _ (Extern.ReflectliteType.method λt=>do Rtype.noPackHeld "Comparable" t;pure (.bool (←typeInfo t).comparable)) func360 Φ Φ Φ Φ;have tT:=Rx;have cT:=AP;have mR:=mZ;have heq:=run_eql_iface_ptr_same (P:=prog) w a underlying120 underlying354 hi hcmp hj
 go_enter func66,ntmps66
 go_wp2
 refine wp_loop_rounds 1 ?_;rw[rounds_succ]
 go_wp2
 go_ret
 exact⟨rfl,rfl⟩
def adY (b:Addr)(w:World) :
  Calls prog 66 #[.nilIface,.iface 354 (.pointer (some b))] w λe f=>e = .returned (.bool false)∧f=w:=by
 have g:=run_eql_iface_nil_left (P:=prog) w 354 (.pointer (some b)) underlying120
 go_enter func66,ntmps66
 go_wp2
 go_ret
 exact⟨rfl,rfl⟩
def adX (a b:Addr)(ca cb:Array Value)(ta tb:TypeId)(w:World)(hne:a≠b)(ha:w.heap[a.block]? = some (.cells ca ta (0,0)))(hb:w.heap[b.block]? = some (.cells cb tb (0,0))) :
  Calls prog 66 #[.iface 354 (.pointer (some a)),.iface 354 (.pointer (some b))] w λe w'=>e = .returned (.bool false)∧w'=w:=by
 obtain⟨i,hi,hcmp⟩:=C?.1 ad2;obtain⟨j,hj,hjs⟩:=C?.1 adZ;have h8:=@run_callFunc_extern prog 107 _ Extern.ReflectliteType.typeOf func107 Φ Φ Φ Φ;have h32:=@run_callFunc_extern prog 360 _ (Extern.ReflectliteType.method λt=>do Rtype.noPackHeld "Comparable" t;pure (.bool (←typeInfo t).comparable)) func360 Φ Φ Φ Φ;have tT:=Rx;have cT:=AP;have mR:=mZ;have nE:=aou;have uE:=ZY;have vE:=U4;have heq:=run_eql_iface_ptr_other (P:=prog) w underlying120 underlying354 hi hcmp hj (by rw[hjs];decide) hne ha hb
 go_enter func66,ntmps66
 go_wp2
 refine wp_loop_rounds 1 ?_;rw[rounds_succ]
 go_wp2
 go_ret
 exact⟨rfl,rfl⟩
structure Two (a0 a1:Addr)(w:World):Prop where
 ne:a0≠a1
 r0:∃c t,w.heap[a0.block]? = some (.cells c t (0,0))
 r1:∃c t,w.heap[a1.block]? = some (.cells c t (0,0))
abbrev two (g f:Addr):Clo.SymVal:=⟨λn=>.iface 354 (.pointer (some (match n with|0=>g|_=>f))),λ_=>rfl,Two g f⟩
def anC:Clo.Callable prog 66:=⟨_,func66,Φ,Φ⟩
open Clo in
def abW [SymVal]{f:Gx}{a b:CV}{g:List Value}(h:RTs f [.pv (.one a),.pv (.one b)] g):∃x y,g=[x,y]∧den f a=some x∧den f b=some y:=by
 match g,h with
 |[x,y],⟨l,j,_⟩=>exact⟨x,y,rfl,l,j⟩
open Clo in
def amX (j f:Addr)(U:Tb)(Gl:Glt):let _:=two j f
  yX prog Gl U→yX prog Gl (jy 66 [.pv (.one .nili),.pv (.one (.sym 0))] (.pv (.one (.bl false))) (jy 66 [.pv (.one .nili),.pv (.one (.sym 1))] (.pv (.one (.bl false))) (jy 66 [.pv (.one (.sym 1)),.pv (.one (.sym 0))] (.pv (.one (.bl false))) (jy 66 [.pv (.one (.sym 1)),.pv (.one (.sym 1))] (.pv (.one (.bl true))) U)))):=by
 letI:=two j f
 intro _ T;have g:∀{p:Gx} {l:Array Value} {w:World} {b:Bool},Calls prog 66 l w (λe r=>e = .returned (.bool b)∧r=w)→Callable prog 66∧Calls prog 66 l w λe r=>∃u,e = .returned u∧RT p (.pv (.one (.bl b))) u∧w.grownBy r none∧w.drawn≤r.drawn:=λh=>by refine⟨anC,h.mono ?_⟩;rintro e r ⟨rfl,rfl⟩;exact⟨_,rfl,rfl,World.grownBy.refl _ _,δ _⟩
 refine ml (λp l w J C=>?_) (ml (λp l w J C=>?_) (ml (λp l w J C=>?_) (ml (λp l w J C=>?_) T)));all_goals
  obtain⟨hne,⟨c0,t0,r0⟩,c1,t1,r1⟩:Two j f w:=J;obtain⟨x,y,rfl,R,P⟩:=abW C
 ·obtain rfl:Value.nilIface=x:=χ R;obtain rfl:Value.iface 354 (.pointer (some j))=y:=χ P;exact g (adY j w)
 ·obtain rfl:Value.nilIface=x:=χ R;obtain rfl:Value.iface 354 (.pointer (some f))=y:=χ P;exact g (adY f w)
 ·obtain rfl:Value.iface 354 (.pointer (some f))=x:=χ R;obtain rfl:Value.iface 354 (.pointer (some j))=y:=χ P;exact g (adX f j c1 c0 t1 t0 w (λe=>hne e.symm) r1 r0)
 ·obtain rfl:Value.iface 354 (.pointer (some f))=x:=χ R;obtain rfl:Value.iface 354 (.pointer (some f))=y:=χ P;exact g (ajF f w)
