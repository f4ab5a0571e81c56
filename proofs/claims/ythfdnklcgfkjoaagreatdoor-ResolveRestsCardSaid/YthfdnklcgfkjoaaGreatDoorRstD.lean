/- The row ResolveRests. -/
import Derived.Test.YthfdnklcgfkjoaaGreatDoorRstB
import Derived.Test.YthfdnklcgfkjoaaGreatDoorRstC
import Derived.Test.YthfdnklcgfkjoaaGreatDoorTie
import Derived.Test.YthfdnklcgfkjoaaGreatDoorCards
import Derived.ChangeMaps5
import Derived.ChangeVars
import Derived.JoinedOf
import Derived.RowKitTokens
import Derived.LaidLaws
import Derived.LaidMore
set_option linter.all false
namespace Go.Proofs.YthfdnklcgfkjoaaGreatDoor.Abs
open Go Go.Proofs Go.ChangeShapes Go.WideShapes Go.ChangeAt Go.WideMaps Go.WideElems Go.ChangeMaps Go.RowKit Tryz
def Ru:List (String×DataW Unit):=[("semvcs/resolve.errNone",Rows.laid_semvcs_resolve_errNone),("semvcs/resolve.errStale",Rows.laid_semvcs_resolve_errStale)]
def gE:prog.globalNamed "semvcs/resolve.errNone" = some 0:=by kernel_rfl
def gF:prog.globalNamed "semvcs/resolve.errStale" = some 1:=by kernel_rfl
def gEt:(prog.globals[0]?).map (·.type)=some 120:=by kernel_rfl
def gFt:(prog.globals[1]?).map (·.type)=some 120:=by kernel_rfl
def aoc : "*" ++ "errors.errorString" = "*errors.errorString":=by decide
def al2 (u:TypeId)(h:prog.typeName? 3 u=some "*errors.errorString"):u=354 :=
 typeName_ptr_named (nm:="errors.errorString") (by rw[aoc];kernel_rfl) (by kernel_rfl) Ϛ u (by rw[aoc];exact h)
def ajk {W:World}(h:laidMetH prog Ru W):∃g f,Err.Sen g f W:=by rw[MakeChecks.laidMetH_plain _ _ _ (by kernel_rfl)]at h;obtain⟨g,f,s0,s1,P,c1,r,p,l,j,_,_,_,_,_,_,ne,J,C⟩:=laid_sentinels2 h gE gEt gF gFt underlying120 al2 underlying354 underlying378 rfl rfl underlying9 (by kernel_rfl) (by kernel_rfl);exact⟨g,f,by simpa using World.var?_cell gE l 0,by simpa using World.var?_cell gF j 0,ne,⟨P,r,J⟩,c1,p,C⟩
def aom:ownKnob prog.godebug=none:=by kernel_rfl
def amO:laidOutB prog=true:=by kernel_rfl
def ab4:∀t f,bM.tab.ty t=some f→f.good=true:=λt f h=>d_.1 (by kernel_rfl:(bM.ty.all λp=>p.2.good)=true) (t,f) (iO h)
def ae0 (os:Os)(args:Array Value):laidMetH prog Ru ((World.doorLaid prog 400 os).forCall (λ_ _=>0) ⟨#[],args,[]⟩).memory :=
 laidMetH_of_parts3 (fuel:=8) (laidMet_of_run' 8 (by kernel_rfl) (by kernel_rfl)) (by kernel_rfl) (by kernel_rfl)
def Qf {p j:Addr}{w:World}(J:Err.Sen p j w)(first:Int)(l:List bm.den)(d:bm.den){St:Sb}(P:∀b o,St b o→b<w.heap.size){f:List Value}(C:RepVs w St [⟨tInt,first⟩,⟨.slice bm,l⟩,⟨bm,d⟩] f) :
  Calls prog 3 f.toArray w λe r=>e = .returned (.bool true)∧Below w.heap.size w r:=by
 obtain⟨h,s,ws,R,e1,e2,e3,e4,U,T⟩:=acW first l d
 exact rests_walk (F:=Err.Sen p j) (λ_ _ h g=>h.below g) Err.awake_ok (hist_m _ _ e1) (at_m e2) (writes_m e3) (restR_m e4) (restX_m U) (same_m T) P C J
set_option maxRecDepth 100000 in
def MT (os:Os)(f:os.Started)(H:Type)(enc:TypeId×Value→H) :
  ReturnsInHanded {} checked os 3 .any (λw args=>(Rows.resolveRestsSpec.pre enc prog f3 [] false w args∧laidMetH prog Ru w)∧sizedMet enc prog f3 (OpenSpec.ofChange Rows.resolveRestsSpec) false w args)
   (Rows.resolveRestsSpec.post enc prog f3 false true false false):=by
 refine returnsInHanded_of_change_and (C:=checked) (X:=λw _=>laidMetH prog Ru w) (λ_ _ _ hh h=>h.of_heap hh) aom f (by kernel_rfl) func3
  (ChangeSpec.witness_shaped (enc:=enc) (C:=checked) (os:=os) (X:=λw _=>laidMetH prog Ru w) false (World.doorLaid prog 400 os) #[.int .i64 0,.slice none 0 0,.agg #[.int .i64 0,.int .i64 0,.int .i64 0,.int .i64 0]] 8 rfl (World.shaped_of_RefB (by kernel_rfl) (by kernel_rfl)) (by kernel_rfl) (by kernel_rfl) (by kernel_rfl) (ae0 os _)) ?_
 intro W base args P gs before g U _ _ hL _;have l:=U;obtain⟨p,q,J,hV,rfl,hfz,hnd⟩:=U;have hA:DataW.TrodAll enc prog W 0 (λ_=>true) true f3.params.toList args.toList P p:=J;obtain⟨rfl,rfl⟩:=trodVars_none hV;have r:∀x∈p,x.block<W.heap.size:=λx hx=>by simpa using l.lt x (by simp[hx])
 obtain⟨a0,a1,hg⟩:=ajk hL;obtain⟨xs,e,hr,_,hl⟩:=KK (St:={ s:=λb _=>b<W.heap.size }) aG ab4 (λ_ _ h=>h) (base:=base) f3.params.toList [tInt,.slice bm,bm] args.toList P p (by kernel_rfl) hA
  (λj t v a b=>g j t v (by simpa using a) (by simpa using b))
 match xs,e with
 |[⟨_,x0⟩,⟨_,x1⟩,⟨_,x2⟩],rfl=>
  match P,hl with
  |[d0,d1,d2],_=>
   have R:=Qf hg x0 x1 x2 (λ_ _ h=>h) hr;rw[show args.toList.toArray=args by simp]at R;refine R.mono λe' W' ⟨he,T⟩=>?_;subst he;refine⟨_,rfl,[d0,d1,d2],[],p++[],[],p,[],l, ?_, ?_, ?_,T.frame _,λh=>by cases h⟩
   ·exact trodAll_mk1 (shut_bool (t:=4) underlying4 true)
   ·exact xV amO T _ _ _ _ (ahv (by kernel_rfl)) hA r
   ·rfl
