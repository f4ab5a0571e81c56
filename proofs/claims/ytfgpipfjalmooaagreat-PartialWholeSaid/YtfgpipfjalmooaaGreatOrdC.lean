/- graph. -/
import Derived.Test.YtfgpipfjalmooaaGreatProg
import Derived.Test.YtfgpipfjalmooaaGreatAbsK
import Derived.WalkKit
import Derived.Laws.OwnMore
import Derived.Laws.AppendOwnNone
import Derived.Maps.GroupsBeside
import Derived.Maps.AppendAt
import Derived.Sort.OwnSortedInts
import Derived.Shelf.SortM.Plain
import Derived.Shelf.SortM.SortNone
import Derived.Shelf.Slices.SearchI
import Derived.Shelf.Spec.SlicesInsertGrow
open Option renaming some→ä,none→ö
set_option linter.all false
namespace Go.Proofs.YtfgpipfjalmooaaGreat
namespace Abs
def OO:∀{a b:List Int},a.Nodup→(∀x∈a,x∈b)→a.length≤b.length
 |[],_,_,_=>Y' _
 |x::a,b,hn,h=>by have ⟨l,j⟩:=aj7.1 hn;have g:=h x (m_ ..);have:=OO (b:=b.erase x) j λy f=>(ak2 λe:y=x=>l (by rw[←e];exact f)).2 (h y (e_ _ f));rw[akJ g]at this;have:=akl g;simp;omega
open Go Go.RowKit Tryz
def sw (w f:World)(St:Sb):Sb:=⟨λb o=>St b o∨(w.heap.size≤b∧b<f.heap.size),St.j⟩
def OU (w f:World)(St:Sb):St.le (sw w f St):=⟨λ_ _ h=>.inl h,λ_ _ _ _ h=>h⟩
variable{St:Sb}{v:Value}
def de {w f:World}{e:TypeId}{τ:Ty}{l:List τ.den}{xs:List Value}(r:f.ownsRow w.heap.size e τ.size v l.length xs)(p:Rep f (sw w f St) (chain (toD τ) l) xs):Rep f (sw w f St) (toD (.slice τ) l) [v]:=by
 have hl:=bv p;rcases r.2 with⟨rfl,T⟩|⟨g,cap,U,rfl,P,R,J,_,hs,ht⟩
 ·refine⟨ö,0,0,rfl,by rw[len_chain];exact T.symm,ε _,.inl rfl⟩
 ·refine⟨ä ⟨g,0,ö⟩,l.length,cap,rfl,(len_chain _ _).symm,J,.inr ⟨⟨g,0,ö⟩,xs,rfl,rfl,p,λj u C=>⟨?_,.inr ⟨P, ?_⟩⟩⟩⟩
  ·exact r.cells (g:=g) rfl j u C
  ·exact(δ.1 R).1
def Ou {w f:World}(l:Below w.heap.size w f)(j:dz w≤dz f){t:Ty}{x:t.den}(g:RepV f (sw w f St) t x v):Hj w St (.val t x) (.returned v) f :=
 ⟨v,sw w f St,rfl,l,j,OU w f St,λ_ _ h=>h,λ_ _ _ _ h=>.inl h,v,rfl,g⟩
open Go.Proofs Go.Maps Go.MapKept Go.WideElems
open Go.ChangeMaps (setBlock heap_setBlock_same)
open Go.ChangeShapes (lits)
def intsI (l:List Int):List Value:=l.map (.int .i64)
def Kn:prog.underlying 3=ä (.int .i64):=Φ
def Zj:prog.underlying 23=ä (.slice 3):=Φ
def Q7:prog.underlying 64=ä (.map 3 23):=Φ
def abn:(prog.info? 3).map (λi=>(i.zero,i.size,i.bytes))=ä (ä (.int .i64 0),1,8):=Φ
def Lz:Keyed prog 3:=int_keyed Kn
def YY (w:World):(zeroValue 23).run prog w = .ok (.slice ö 0 0) w:=Φ
def O6:∀{a b:List Int},(lits .i64 a:List (DataW Unit))=lits .i64 b→a=b
 |[],[],_=>rfl
 |x::a,y::b,h=>by simp only[lits,c?,k_]at h;obtain⟨g,f⟩:=h;cases g;rw[O6 (a:=a) (b:=b) f]
 |[],_::_,h=>by cases h
 |_::_,[],h=>by cases h
end Abs
namespace Go.Proofs
open Go.Shelf Tryz
def Tryz.sortI_ren:Go.Shelf.Ren:=⟨λ|5=>36|8=>67|7=>66|19=>119|20=>120|10=>110|11=>111|12=>112|13=>113|14=>114|15=>115|16=>116|17=>117|18=>118|30=>152|31=>153|32=>154|33=>155|34=>156|35=>70|40=>187|n=>n,λ|23=>23|25=>3|3=>3|32=>108|22=>23|0=>0|44=>158|46=>160|4=>4|36=>150|35=>149|41=>155|5=>5|9=>9|53=>201|57=>205|63=>240|64=>128|n=>n,λ|n=>n⟩
def Tryz.sortI:Go.Proofs.SlLaysM.n5 Tryz.prog Tryz.sortI_ren:={
 mixed:=by kernel_rfl
 f5:=⟨Tryz.f36.name,by decide,Tryz.func36.trans (congrArg ä (by kernel_rfl))⟩
 f7:=⟨Tryz.f66.name,by decide,Tryz.func66.trans (congrArg ä (by kernel_rfl))⟩
 f8:=Tryz.func67.trans (congrArg ä (by kernel_rfl))
 f10:=⟨Tryz.f110.name,by decide,Tryz.func110.trans (congrArg ä (by kernel_rfl))⟩
 f11:=⟨Tryz.f111.name,by decide,Tryz.func111.trans (congrArg ä (by kernel_rfl))⟩
 f12:=⟨Tryz.f112.name,by decide,Tryz.func112.trans (congrArg ä (by kernel_rfl))⟩
 f13:=⟨Tryz.f113.name,by decide,Tryz.func113.trans (congrArg ä (by kernel_rfl))⟩
 f14:=⟨Tryz.f114.name,by decide,Tryz.func114.trans (congrArg ä (by kernel_rfl))⟩
 f15:=⟨Tryz.f115.name,by decide,Tryz.func115.trans (congrArg ä (by kernel_rfl))⟩
 f16:=⟨Tryz.f116.name,by decide,Tryz.func116.trans (congrArg ä (by kernel_rfl))⟩
 f17:=⟨Tryz.f117.name,by decide,Tryz.func117.trans (congrArg ä (by kernel_rfl))⟩
 f18:=⟨Tryz.f118.name,by decide,Tryz.func118.trans (congrArg ä (by kernel_rfl))⟩
 f19:=Tryz.func119.trans (congrArg ä (by kernel_rfl))
 f20:=Tryz.func120.trans (congrArg ä (by kernel_rfl))
 f30:=⟨Tryz.f152.name,by decide,Tryz.func152.trans (congrArg ä (by kernel_rfl))⟩
 f31:=Tryz.func153.trans (congrArg ä (by kernel_rfl))
 f32:=Tryz.func154.trans (congrArg ä (by kernel_rfl))
 f33:=⟨Tryz.f155.name,by decide,Tryz.func155.trans (congrArg ä (by kernel_rfl))⟩
 f34:=⟨Tryz.f156.name,by decide,Tryz.func156.trans (congrArg ä (by kernel_rfl))⟩
 f35:=⟨Tryz.f70.name,by decide,Tryz.func70.trans (congrArg ä (by kernel_rfl))⟩
 f40:=⟨Tryz.f187.name,by decide,Tryz.func187.trans (congrArg ä (by kernel_rfl))⟩
 t0:=Tryz.underlying0
 a0:=Tryz.isAgg0
 z0:=Tryz.sizeOf0
 v0:=Tryz.zeroValue0
 t3:=Tryz.underlying3
 a3:=Tryz.isAgg3
 z3:=Tryz.sizeOf3
 v3:=Tryz.zeroValue3
 t4:=Tryz.underlying4
 a4:=Tryz.isAgg4
 z4:=Tryz.sizeOf4
 v4:=Tryz.zeroValue4
 t5:=Tryz.underlying5
 a5:=Tryz.isAgg5
 z5:=Tryz.sizeOf5
 v5:=Tryz.zeroValue5
 t9:=Tryz.underlying9
 a9:=Tryz.isAgg9
 z9:=Tryz.sizeOf9
 v9:=Tryz.zeroValue9
 t22:=Tryz.underlying23
 a22:=Tryz.isAgg23
 z22:=Tryz.sizeOf23
 v22:=Tryz.zeroValue23
 t23:=Tryz.underlying23
 a23:=Tryz.isAgg23
 z23:=Tryz.sizeOf23
 v23:=Tryz.zeroValue23
 t25:=Tryz.underlying3
 a25:=Tryz.isAgg3
 z25:=Tryz.sizeOf3
 v25:=Tryz.zeroValue3
 t32:=Tryz.underlying108
 a32:=Tryz.isAgg108
 z32:=Tryz.sizeOf108
 v32:=Tryz.zeroValue108
 t35:=Tryz.underlying149
 a35:=Tryz.isAgg149
 z35:=Tryz.sizeOf149
 v35:=Tryz.zeroValue149
 t36:=Tryz.underlying150
 a36:=Tryz.isAgg150
 z36:=Tryz.sizeOf150
 v36:=Tryz.zeroValue150
 t41:=Tryz.underlying155
 a41:=Tryz.isAgg155
 z41:=Tryz.sizeOf155
 v41:=Tryz.zeroValue155
 t44:=Tryz.underlying158
 a44:=Tryz.isAgg158
 z44:=Tryz.sizeOf158
 v44:=Tryz.zeroValue158
 t46:=Tryz.underlying160
 a46:=Tryz.isAgg160
 z46:=Tryz.sizeOf160
 v46:=Tryz.zeroValue160
 t53:=Tryz.underlying201
 a53:=Tryz.isAgg201
 z53:=Tryz.sizeOf201
 v53:=Tryz.zeroValue201
 t57:=Tryz.underlying205
 a57:=Tryz.isAgg205
 z57:=Tryz.sizeOf205
 v57:=Tryz.zeroValue205
 t63:=Tryz.underlying240
 a63:=Tryz.isAgg240
 z63:=Tryz.sizeOf240
 v63:=Tryz.zeroValue240
 t64:=Tryz.underlying128
 a64:=Tryz.isAgg128
 z64:=Tryz.sizeOf128
 v64:=Tryz.zeroValue128 }
end Go.Proofs
namespace Abs
open Go Go.Proofs Go.RowKit Go.Maps Tryz
def Rj (f cap:Nat)(g:List Int)(w:World)(C:Sort.Holds (Value.int .i64) w f 0 g.toArray)(j:f<w.heap.size)(l:g.length<4611686018427387904) :
  Calls prog 36 #[.slice (ä ⟨f,0,ö⟩) g.length cap] w λe p=>e = .returned (.tuple #[])∧∃n r,p=Sort.grow (Sort.putRow (Value.int .i64) (Sort.ahead w n) f 0 (g.mergeSort λx y=>decide (x≤y)).toArray) r :=
 AnyM.slices_Sort_int sortI f 0 cap g w C j l
def Wy (p:Option Addr)(cap:Nat)(w:World):Calls prog 36 #[.slice p 0 cap] w λe f=>e = .returned (.tuple #[])∧f=w:=AnyM.slices_Sort_int_none sortI p cap w
def DE {w:World}{g:Nat}{f:Array Value}{e:TypeId}{l:Nat×Nat}(h:w.heap[g]? = ä (.cells f e l))(j:Nat):w.cell? ⟨g,j,ö⟩=f[j]?:=by simp[World.cell?,h]
