/- Texts that are read twice: as the machine runs them, and as they are evaluated; contracts of functions of any number of arguments. -/
import Derived.Test.YtboikinjlmjgjaaGreatAbsS
namespace Go.Proofs.YtboikinjlmjgjaaGreat.Abs
open Go Go.RowKit
section
variable {α β:Type}
def cl (m:Bool) (t:Ty) (e:Option t.den) (k:t.den→Option β):Option β:=match m with
 | true=>jq e.isSome (e.getD (zero t)) k
 | false=>uH e fun r=>nf t r k
def ce (m:Bool) (t:Ty) (g:Bool) (v:t.den) (k:t.den→Option β):Option β:=match m with
 | true=>jq g v k
 | false=>jq g v fun r=>nf t r k
def fz (m:Bool) (t:Ty) (x:t.den) (k:t.den→β):β:=match m with
 | true=>k x
 | false=>nf t x k
def fm (m:Bool) (x:Nat) (k:Nat→β):β:=match m with
 | true=>k x
 | false=>fN x k
def ck (b:Bool) (k:Option β):Option β:=bif b then k else none
abbrev ii (c:Bool):Bool:=aC c c
def q1 (n:Nat) (c:Bool):Bool:=match n with
 | 0=>ii c
 | 1=>ii c&&true
 | 2=>(ii c&&true)&&true
 | _=>(ii c&&(ii c&&true))&&true
def q2 (n:Nat) (c:Bool):Bool:=match n with
 | 0=>ii c
 | 1=>ii c&&true
 | 2=>ii c&&(ii c&&true)
 | _=>ii c&&(ii c&&(ii c&&true))
def nqT (c:Bool) (k:Option β):List Nat→Option β
 | []=>k
 | n::r=>ck (q1 n c) (nqT c k r)
def nq (m:Bool) (l:List Nat) (c:Bool) (k:Option β):Option β:=match m with
 | true=>nqT c k l
 | false=>k
def nm (m:Bool) (n:Nat) (c z:Bool) (k:Option β):Option β:=match m with
 | true=>ck (q2 n c&&aC c z) k
 | false=>ck (aC c z) k
theorem YN (c:Bool) (k:Option β) : ∀ l,nqT c k l=k
 | []=>rfl
 | n::r=>by
  have:q1 n c=true:=by unfold q1; split <;> simp [aS]
  rw [nqT,this,YN c k r]; rfl
theorem zM (m c:Bool) (k:Option β) (l:List Nat):nq m l c k=k:=by cases m; rfl; exact YN c k l
theorem Tr (m:Bool) (n:Nat) (c z:Bool) (k:Option β):nm m n c z k=ck (aC c z) k:=by
 have:q2 n c=true:=by unfold q2; split <;> simp [aS]
 cases m
 ·rfl
 ·rw [nm,this,Bool.true_and]
abbrev te (x:Tree):Tree:=Tree.mk x.kind x.text x.leads x.kids
abbrev bd (i:Int) (n:Nat):Bool:=decide (0≤i)&&decide (i<(n:Int))
abbrev b1 (i:Int) (n:Nat):Bool:=decide (0≤i)&&decide (i≤(n:Int))
abbrev b2 (i j:Int) (n:Nat):Bool:=decide (0≤i)&&decide (i≤j)&&decide (j≤(n:Int))
abbrev il (l:List α):Int:=(l.length:Int)
abbrev lm (n:Nat):Bool:=decide (n≤LIM)
abbrev ni (n:Nat):Int:=(n:Int)
abbrev sl (l:List α) (i j:Int):List α:=(List.take (Int.toNat j) l).drop (Int.toNat i)
abbrev vG (e:Option α):Bool:=e.isSome
abbrev vF (t:Ty) (e:Option t.den):t.den:=e.getD (zero t)
theorem s0 (m:Bool) (t:Ty) (e:Option t.den) (k:t.den→Option β):cl m t e k=uH e k:=by
 cases m
 ·simp only [cl,Gp]
 ·simp only [cl,acf]
theorem s1 (m:Bool) (t:Ty) (g:Bool) (v:t.den) (k:t.den→Option β):ce m t g v k=jq g v k:=by cases m <;> simp only [ce,Gp]
theorem s2 (m:Bool) (t:Ty) (x:t.den) (k:t.den→β):fz m t x k=k x:=by cases m <;> simp only [fz,Gp]
theorem s3 (m:Bool) (x:Nat) (k:Nat→β):fm m x k=k x:=by cases m <;> simp only [fm,Um]
theorem s4 {γ:Type} (f:β→γ) (b:Bool) (k:Option β):Option.map f (ck b k)=ck b (Option.map f k):=by cases b <;> rfl
theorem s5 {γ:Type} (f:β→γ) (c:Bool) (x y:Option β):Option.map f (bif c then x else y)=bif c then Option.map f x else Option.map f y:=af0 f c x y
theorem s6 {γ:Type} (f:β→γ) (x:Option α) (k:α→Option β):Option.map f (uH x k)=uH x (fun r=>Option.map f (k r)):=YM f x k
theorem s7 {γ:Type} (f:β→γ) (g:Bool) (v:α) (k:α→Option β):Option.map f (jq g v k)=jq g v (fun r=>Option.map f (k r)):=W3 f g v k
theorem s8 (f:α→β) (x:α):Option.map f (some x)=some (f x):=rfl
theorem s9 (f:α→β):Option.map f none=none:=rfl
abbrev sm (o:α→β):α→Option β:=fun r=>some (o r)
def lp {S:Type} (z:S) (f:S→S) (n:Nat):S:=Nat.rec z (fun _ s=>f s) n
theorem bo {S S':Type} {x:Nat→S} {e:S'→S} {z:S'} {f:S'→S'} (h0:x 0=e z) (hs : ∀ n s,x n=e s→x (n+1)=e (f s)) : ∀ n,x n=e (lp z f n)
 | 0=>h0
 | n+1=>hs n _ (bo h0 hs n)
def kLp (lo:Nat) (m:MS) (e:Sg→KT→Option AV) (k:KT) (n:Nat):KT:=mR lo m (aB lo m e k n) k
def xc (ck:Callk) (S:Par) (lo u:Nat) (c:Code):Sg→KT→Option AV:=fun σ k=>be ck S lo u c σ k
abbrev mp0 (o:α→β) (f:Option α):Option β:=Option.map o (f)
abbrev mp1 {A0:Type} (o:α→β) (f:A0→Option α):A0→Option β:=fun a0=>Option.map o (f a0)
abbrev mp2 {A0 A1:Type} (o:α→β) (f:A0→A1→Option α):A0→A1→Option β:=fun a0 a1=>Option.map o (f a0 a1)
abbrev mp3 {A0 A1 A2:Type} (o:α→β) (f:A0→A1→A2→Option α):A0→A1→A2→Option β:=fun a0 a1 a2=>Option.map o (f a0 a1 a2)
abbrev mp4 {A0 A1 A2 A3:Type} (o:α→β) (f:A0→A1→A2→A3→Option α):A0→A1→A2→A3→Option β:=fun a0 a1 a2 a3=>Option.map o (f a0 a1 a2 a3)
abbrev mp5 {A0 A1 A2 A3 A4:Type} (o:α→β) (f:A0→A1→A2→A3→A4→Option α):A0→A1→A2→A3→A4→Option β:=fun a0 a1 a2 a3 a4=>Option.map o (f a0 a1 a2 a3 a4)
abbrev mp6 {A0 A1 A2 A3 A4 A5:Type} (o:α→β) (f:A0→A1→A2→A3→A4→A5→Option α):A0→A1→A2→A3→A4→A5→Option β:=fun a0 a1 a2 a3 a4 a5=>Option.map o (f a0 a1 a2 a3 a4 a5)
abbrev mp7 {A0 A1 A2 A3 A4 A5 A6:Type} (o:α→β) (f:A0→A1→A2→A3→A4→A5→A6→Option α):A0→A1→A2→A3→A4→A5→A6→Option β:=fun a0 a1 a2 a3 a4 a5 a6=>Option.map o (f a0 a1 a2 a3 a4 a5 a6)
abbrev mp8 {A0 A1 A2 A3 A4 A5 A6 A7:Type} (o:α→β) (f:A0→A1→A2→A3→A4→A5→A6→A7→Option α):A0→A1→A2→A3→A4→A5→A6→A7→Option β:=fun a0 a1 a2 a3 a4 a5 a6 a7=>Option.map o (f a0 a1 a2 a3 a4 a5 a6 a7)
abbrev mp9 {A0 A1 A2 A3 A4 A5 A6 A7 A8:Type} (o:α→β) (f:A0→A1→A2→A3→A4→A5→A6→A7→A8→Option α):A0→A1→A2→A3→A4→A5→A6→A7→A8→Option β:=fun a0 a1 a2 a3 a4 a5 a6 a7 a8=>Option.map o (f a0 a1 a2 a3 a4 a5 a6 a7 a8)
abbrev wA {A0 A1 A2 A3 A4 A5 A6 A7 A8 A9:Type} (o:α→β) (f:A0→A1→A2→A3→A4→A5→A6→A7→A8→A9→Option α):A0→A1→A2→A3→A4→A5→A6→A7→A8→A9→Option β:=fun a0 a1 a2 a3 a4 a5 a6 a7 a8 a9=>Option.map o (f a0 a1 a2 a3 a4 a5 a6 a7 a8 a9)
abbrev yx {A0 A1 A2 A3 A4 A5 A6 A7 A8 A9 A10:Type} (o:α→β) (f:A0→A1→A2→A3→A4→A5→A6→A7→A8→A9→A10→Option α):A0→A1→A2→A3→A4→A5→A6→A7→A8→A9→A10→Option β:=fun a0 a1 a2 a3 a4 a5 a6 a7 a8 a9 a10=>Option.map o (f a0 a1 a2 a3 a4 a5 a6 a7 a8 a9 a10)
abbrev ahn {A0 A1 A2 A3 A4 A5 A6 A7 A8 A9 A10 A11:Type} (o:α→β) (f:A0→A1→A2→A3→A4→A5→A6→A7→A8→A9→A10→A11→Option α):A0→A1→A2→A3→A4→A5→A6→A7→A8→A9→A10→A11→Option β:=fun a0 a1 a2 a3 a4 a5 a6 a7 a8 a9 a10 a11=>Option.map o (f a0 a1 a2 a3 a4 a5 a6 a7 a8 a9 a10 a11)
abbrev qX {A0 A1 A2 A3 A4 A5 A6 A7 A8 A9 A10 A11 A12:Type} (o:α→β) (f:A0→A1→A2→A3→A4→A5→A6→A7→A8→A9→A10→A11→A12→Option α):A0→A1→A2→A3→A4→A5→A6→A7→A8→A9→A10→A11→A12→Option β:=fun a0 a1 a2 a3 a4 a5 a6 a7 a8 a9 a10 a11 a12=>Option.map o (f a0 a1 a2 a3 a4 a5 a6 a7 a8 a9 a10 a11 a12)
abbrev amh {A0 A1 A2 A3 A4 A5 A6 A7 A8 A9 A10 A11 A12 A13:Type} (o:α→β) (f:A0→A1→A2→A3→A4→A5→A6→A7→A8→A9→A10→A11→A12→A13→Option α):A0→A1→A2→A3→A4→A5→A6→A7→A8→A9→A10→A11→A12→A13→Option β:=fun a0 a1 a2 a3 a4 a5 a6 a7 a8 a9 a10 a11 a12 a13=>Option.map o (f a0 a1 a2 a3 a4 a5 a6 a7 a8 a9 a10 a11 a12 a13)
abbrev aj7 {A0 A1 A2 A3 A4 A5 A6 A7 A8 A9 A10 A11 A12 A13 A14:Type} (o:α→β) (f:A0→A1→A2→A3→A4→A5→A6→A7→A8→A9→A10→A11→A12→A13→A14→Option α):A0→A1→A2→A3→A4→A5→A6→A7→A8→A9→A10→A11→A12→A13→A14→Option β:=fun a0 a1 a2 a3 a4 a5 a6 a7 a8 a9 a10 a11 a12 a13 a14=>Option.map o (f a0 a1 a2 a3 a4 a5 a6 a7 a8 a9 a10 a11 a12 a13 a14)
abbrev VH {A0 A1 A2 A3 A4 A5 A6 A7 A8 A9 A10 A11 A12 A13 A14 A15:Type} (o:α→β) (f:A0→A1→A2→A3→A4→A5→A6→A7→A8→A9→A10→A11→A12→A13→A14→A15→Option α):A0→A1→A2→A3→A4→A5→A6→A7→A8→A9→A10→A11→A12→A13→A14→A15→Option β:=fun a0 a1 a2 a3 a4 a5 a6 a7 a8 a9 a10 a11 a12 a13 a14 a15=>Option.map o (f a0 a1 a2 a3 a4 a5 a6 a7 a8 a9 a10 a11 a12 a13 a14 a15)
abbrev amg {A0 A1 A2 A3 A4 A5 A6 A7 A8 A9 A10 A11 A12 A13 A14 A15 A16:Type} (o:α→β) (f:A0→A1→A2→A3→A4→A5→A6→A7→A8→A9→A10→A11→A12→A13→A14→A15→A16→Option α):A0→A1→A2→A3→A4→A5→A6→A7→A8→A9→A10→A11→A12→A13→A14→A15→A16→Option β:=fun a0 a1 a2 a3 a4 a5 a6 a7 a8 a9 a10 a11 a12 a13 a14 a15 a16=>Option.map o (f a0 a1 a2 a3 a4 a5 a6 a7 a8 a9 a10 a11 a12 a13 a14 a15 a16)
abbrev amf {A0 A1 A2 A3 A4 A5 A6 A7 A8 A9 A10 A11 A12 A13 A14 A15 A16 A17:Type} (o:α→β) (f:A0→A1→A2→A3→A4→A5→A6→A7→A8→A9→A10→A11→A12→A13→A14→A15→A16→A17→Option α):A0→A1→A2→A3→A4→A5→A6→A7→A8→A9→A10→A11→A12→A13→A14→A15→A16→A17→Option β:=fun a0 a1 a2 a3 a4 a5 a6 a7 a8 a9 a10 a11 a12 a13 a14 a15 a16 a17=>Option.map o (f a0 a1 a2 a3 a4 a5 a6 a7 a8 a9 a10 a11 a12 a13 a14 a15 a16 a17)
abbrev ame {A0 A1 A2 A3 A4 A5 A6 A7 A8 A9 A10 A11 A12 A13 A14 A15 A16 A17 A18:Type} (o:α→β) (f:A0→A1→A2→A3→A4→A5→A6→A7→A8→A9→A10→A11→A12→A13→A14→A15→A16→A17→A18→Option α):A0→A1→A2→A3→A4→A5→A6→A7→A8→A9→A10→A11→A12→A13→A14→A15→A16→A17→A18→Option β:=fun a0 a1 a2 a3 a4 a5 a6 a7 a8 a9 a10 a11 a12 a13 a14 a15 a16 a17 a18=>Option.map o (f a0 a1 a2 a3 a4 a5 a6 a7 a8 a9 a10 a11 a12 a13 a14 a15 a16 a17 a18)
abbrev amd {A0 A1 A2 A3 A4 A5 A6 A7 A8 A9 A10 A11 A12 A13 A14 A15 A16 A17 A18 A19:Type} (o:α→β) (f:A0→A1→A2→A3→A4→A5→A6→A7→A8→A9→A10→A11→A12→A13→A14→A15→A16→A17→A18→A19→Option α):A0→A1→A2→A3→A4→A5→A6→A7→A8→A9→A10→A11→A12→A13→A14→A15→A16→A17→A18→A19→Option β:=fun a0 a1 a2 a3 a4 a5 a6 a7 a8 a9 a10 a11 a12 a13 a14 a15 a16 a17 a18 a19=>Option.map o (f a0 a1 a2 a3 a4 a5 a6 a7 a8 a9 a10 a11 a12 a13 a14 a15 a16 a17 a18 a19)
abbrev amc {A0 A1 A2 A3 A4 A5 A6 A7 A8 A9 A10 A11 A12 A13 A14 A15 A16 A17 A18 A19 A20:Type} (o:α→β) (f:A0→A1→A2→A3→A4→A5→A6→A7→A8→A9→A10→A11→A12→A13→A14→A15→A16→A17→A18→A19→A20→Option α):A0→A1→A2→A3→A4→A5→A6→A7→A8→A9→A10→A11→A12→A13→A14→A15→A16→A17→A18→A19→A20→Option β:=fun a0 a1 a2 a3 a4 a5 a6 a7 a8 a9 a10 a11 a12 a13 a14 a15 a16 a17 a18 a19 a20=>Option.map o (f a0 a1 a2 a3 a4 a5 a6 a7 a8 a9 a10 a11 a12 a13 a14 a15 a16 a17 a18 a19 a20)
abbrev amb {A0 A1 A2 A3 A4 A5 A6 A7 A8 A9 A10 A11 A12 A13 A14 A15 A16 A17 A18 A19 A20 A21:Type} (o:α→β) (f:A0→A1→A2→A3→A4→A5→A6→A7→A8→A9→A10→A11→A12→A13→A14→A15→A16→A17→A18→A19→A20→A21→Option α):A0→A1→A2→A3→A4→A5→A6→A7→A8→A9→A10→A11→A12→A13→A14→A15→A16→A17→A18→A19→A20→A21→Option β:=fun a0 a1 a2 a3 a4 a5 a6 a7 a8 a9 a10 a11 a12 a13 a14 a15 a16 a17 a18 a19 a20 a21=>Option.map o (f a0 a1 a2 a3 a4 a5 a6 a7 a8 a9 a10 a11 a12 a13 a14 a15 a16 a17 a18 a19 a20 a21)
abbrev ama {A0 A1 A2 A3 A4 A5 A6 A7 A8 A9 A10 A11 A12 A13 A14 A15 A16 A17 A18 A19 A20 A21 A22:Type} (o:α→β) (f:A0→A1→A2→A3→A4→A5→A6→A7→A8→A9→A10→A11→A12→A13→A14→A15→A16→A17→A18→A19→A20→A21→A22→Option α):A0→A1→A2→A3→A4→A5→A6→A7→A8→A9→A10→A11→A12→A13→A14→A15→A16→A17→A18→A19→A20→A21→A22→Option β:=fun a0 a1 a2 a3 a4 a5 a6 a7 a8 a9 a10 a11 a12 a13 a14 a15 a16 a17 a18 a19 a20 a21 a22=>Option.map o (f a0 a1 a2 a3 a4 a5 a6 a7 a8 a9 a10 a11 a12 a13 a14 a15 a16 a17 a18 a19 a20 a21 a22)
abbrev al9 {A0 A1 A2 A3 A4 A5 A6 A7 A8 A9 A10 A11 A12 A13 A14 A15 A16 A17 A18 A19 A20 A21 A22 A23:Type} (o:α→β) (f:A0→A1→A2→A3→A4→A5→A6→A7→A8→A9→A10→A11→A12→A13→A14→A15→A16→A17→A18→A19→A20→A21→A22→A23→Option α):A0→A1→A2→A3→A4→A5→A6→A7→A8→A9→A10→A11→A12→A13→A14→A15→A16→A17→A18→A19→A20→A21→A22→A23→Option β:=fun a0 a1 a2 a3 a4 a5 a6 a7 a8 a9 a10 a11 a12 a13 a14 a15 a16 a17 a18 a19 a20 a21 a22 a23=>Option.map o (f a0 a1 a2 a3 a4 a5 a6 a7 a8 a9 a10 a11 a12 a13 a14 a15 a16 a17 a18 a19 a20 a21 a22 a23)
abbrev al8 {A0 A1 A2 A3 A4 A5 A6 A7 A8 A9 A10 A11 A12 A13 A14 A15 A16 A17 A18 A19 A20 A21 A22 A23 A24:Type} (o:α→β) (f:A0→A1→A2→A3→A4→A5→A6→A7→A8→A9→A10→A11→A12→A13→A14→A15→A16→A17→A18→A19→A20→A21→A22→A23→A24→Option α):A0→A1→A2→A3→A4→A5→A6→A7→A8→A9→A10→A11→A12→A13→A14→A15→A16→A17→A18→A19→A20→A21→A22→A23→A24→Option β:=fun a0 a1 a2 a3 a4 a5 a6 a7 a8 a9 a10 a11 a12 a13 a14 a15 a16 a17 a18 a19 a20 a21 a22 a23 a24=>Option.map o (f a0 a1 a2 a3 a4 a5 a6 a7 a8 a9 a10 a11 a12 a13 a14 a15 a16 a17 a18 a19 a20 a21 a22 a23 a24)
abbrev al7 {A0 A1 A2 A3 A4 A5 A6 A7 A8 A9 A10 A11 A12 A13 A14 A15 A16 A17 A18 A19 A20 A21 A22 A23 A24 A25:Type} (o:α→β) (f:A0→A1→A2→A3→A4→A5→A6→A7→A8→A9→A10→A11→A12→A13→A14→A15→A16→A17→A18→A19→A20→A21→A22→A23→A24→A25→Option α):A0→A1→A2→A3→A4→A5→A6→A7→A8→A9→A10→A11→A12→A13→A14→A15→A16→A17→A18→A19→A20→A21→A22→A23→A24→A25→Option β:=fun a0 a1 a2 a3 a4 a5 a6 a7 a8 a9 a10 a11 a12 a13 a14 a15 a16 a17 a18 a19 a20 a21 a22 a23 a24 a25=>Option.map o (f a0 a1 a2 a3 a4 a5 a6 a7 a8 a9 a10 a11 a12 a13 a14 a15 a16 a17 a18 a19 a20 a21 a22 a23 a24 a25)
abbrev al6 {A0 A1 A2 A3 A4 A5 A6 A7 A8 A9 A10 A11 A12 A13 A14 A15 A16 A17 A18 A19 A20 A21 A22 A23 A24 A25 A26:Type} (o:α→β) (f:A0→A1→A2→A3→A4→A5→A6→A7→A8→A9→A10→A11→A12→A13→A14→A15→A16→A17→A18→A19→A20→A21→A22→A23→A24→A25→A26→Option α):A0→A1→A2→A3→A4→A5→A6→A7→A8→A9→A10→A11→A12→A13→A14→A15→A16→A17→A18→A19→A20→A21→A22→A23→A24→A25→A26→Option β:=fun a0 a1 a2 a3 a4 a5 a6 a7 a8 a9 a10 a11 a12 a13 a14 a15 a16 a17 a18 a19 a20 a21 a22 a23 a24 a25 a26=>Option.map o (f a0 a1 a2 a3 a4 a5 a6 a7 a8 a9 a10 a11 a12 a13 a14 a15 a16 a17 a18 a19 a20 a21 a22 a23 a24 a25 a26)
abbrev al5 {A0 A1 A2 A3 A4 A5 A6 A7 A8 A9 A10 A11 A12 A13 A14 A15 A16 A17 A18 A19 A20 A21 A22 A23 A24 A25 A26 A27:Type} (o:α→β) (f:A0→A1→A2→A3→A4→A5→A6→A7→A8→A9→A10→A11→A12→A13→A14→A15→A16→A17→A18→A19→A20→A21→A22→A23→A24→A25→A26→A27→Option α):A0→A1→A2→A3→A4→A5→A6→A7→A8→A9→A10→A11→A12→A13→A14→A15→A16→A17→A18→A19→A20→A21→A22→A23→A24→A25→A26→A27→Option β:=fun a0 a1 a2 a3 a4 a5 a6 a7 a8 a9 a10 a11 a12 a13 a14 a15 a16 a17 a18 a19 a20 a21 a22 a23 a24 a25 a26 a27=>Option.map o (f a0 a1 a2 a3 a4 a5 a6 a7 a8 a9 a10 a11 a12 a13 a14 a15 a16 a17 a18 a19 a20 a21 a22 a23 a24 a25 a26 a27)
abbrev al4 {A0 A1 A2 A3 A4 A5 A6 A7 A8 A9 A10 A11 A12 A13 A14 A15 A16 A17 A18 A19 A20 A21 A22 A23 A24 A25 A26 A27 A28:Type} (o:α→β) (f:A0→A1→A2→A3→A4→A5→A6→A7→A8→A9→A10→A11→A12→A13→A14→A15→A16→A17→A18→A19→A20→A21→A22→A23→A24→A25→A26→A27→A28→Option α):A0→A1→A2→A3→A4→A5→A6→A7→A8→A9→A10→A11→A12→A13→A14→A15→A16→A17→A18→A19→A20→A21→A22→A23→A24→A25→A26→A27→A28→Option β:=fun a0 a1 a2 a3 a4 a5 a6 a7 a8 a9 a10 a11 a12 a13 a14 a15 a16 a17 a18 a19 a20 a21 a22 a23 a24 a25 a26 a27 a28=>Option.map o (f a0 a1 a2 a3 a4 a5 a6 a7 a8 a9 a10 a11 a12 a13 a14 a15 a16 a17 a18 a19 a20 a21 a22 a23 a24 a25 a26 a27 a28)
abbrev al3 {A0 A1 A2 A3 A4 A5 A6 A7 A8 A9 A10 A11 A12 A13 A14 A15 A16 A17 A18 A19 A20 A21 A22 A23 A24 A25 A26 A27 A28 A29:Type} (o:α→β) (f:A0→A1→A2→A3→A4→A5→A6→A7→A8→A9→A10→A11→A12→A13→A14→A15→A16→A17→A18→A19→A20→A21→A22→A23→A24→A25→A26→A27→A28→A29→Option α):A0→A1→A2→A3→A4→A5→A6→A7→A8→A9→A10→A11→A12→A13→A14→A15→A16→A17→A18→A19→A20→A21→A22→A23→A24→A25→A26→A27→A28→A29→Option β:=fun a0 a1 a2 a3 a4 a5 a6 a7 a8 a9 a10 a11 a12 a13 a14 a15 a16 a17 a18 a19 a20 a21 a22 a23 a24 a25 a26 a27 a28 a29=>Option.map o (f a0 a1 a2 a3 a4 a5 a6 a7 a8 a9 a10 a11 a12 a13 a14 a15 a16 a17 a18 a19 a20 a21 a22 a23 a24 a25 a26 a27 a28 a29)
abbrev al2 {A0 A1 A2 A3 A4 A5 A6 A7 A8 A9 A10 A11 A12 A13 A14 A15 A16 A17 A18 A19 A20 A21 A22 A23 A24 A25 A26 A27 A28 A29 A30:Type} (o:α→β) (f:A0→A1→A2→A3→A4→A5→A6→A7→A8→A9→A10→A11→A12→A13→A14→A15→A16→A17→A18→A19→A20→A21→A22→A23→A24→A25→A26→A27→A28→A29→A30→Option α):A0→A1→A2→A3→A4→A5→A6→A7→A8→A9→A10→A11→A12→A13→A14→A15→A16→A17→A18→A19→A20→A21→A22→A23→A24→A25→A26→A27→A28→A29→A30→Option β:=fun a0 a1 a2 a3 a4 a5 a6 a7 a8 a9 a10 a11 a12 a13 a14 a15 a16 a17 a18 a19 a20 a21 a22 a23 a24 a25 a26 a27 a28 a29 a30=>Option.map o (f a0 a1 a2 a3 a4 a5 a6 a7 a8 a9 a10 a11 a12 a13 a14 a15 a16 a17 a18 a19 a20 a21 a22 a23 a24 a25 a26 a27 a28 a29 a30)
abbrev al1 {A0 A1 A2 A3 A4 A5 A6 A7 A8 A9 A10 A11 A12 A13 A14 A15 A16 A17 A18 A19 A20 A21 A22 A23 A24 A25 A26 A27 A28 A29 A30 A31:Type} (o:α→β) (f:A0→A1→A2→A3→A4→A5→A6→A7→A8→A9→A10→A11→A12→A13→A14→A15→A16→A17→A18→A19→A20→A21→A22→A23→A24→A25→A26→A27→A28→A29→A30→A31→Option α):A0→A1→A2→A3→A4→A5→A6→A7→A8→A9→A10→A11→A12→A13→A14→A15→A16→A17→A18→A19→A20→A21→A22→A23→A24→A25→A26→A27→A28→A29→A30→A31→Option β:=fun a0 a1 a2 a3 a4 a5 a6 a7 a8 a9 a10 a11 a12 a13 a14 a15 a16 a17 a18 a19 a20 a21 a22 a23 a24 a25 a26 a27 a28 a29 a30 a31=>Option.map o (f a0 a1 a2 a3 a4 a5 a6 a7 a8 a9 a10 a11 a12 a13 a14 a15 a16 a17 a18 a19 a20 a21 a22 a23 a24 a25 a26 a27 a28 a29 a30 a31)
abbrev al0 {A0 A1 A2 A3 A4 A5 A6 A7 A8 A9 A10 A11 A12 A13 A14 A15 A16 A17 A18 A19 A20 A21 A22 A23 A24 A25 A26 A27 A28 A29 A30 A31 A32:Type} (o:α→β) (f:A0→A1→A2→A3→A4→A5→A6→A7→A8→A9→A10→A11→A12→A13→A14→A15→A16→A17→A18→A19→A20→A21→A22→A23→A24→A25→A26→A27→A28→A29→A30→A31→A32→Option α):A0→A1→A2→A3→A4→A5→A6→A7→A8→A9→A10→A11→A12→A13→A14→A15→A16→A17→A18→A19→A20→A21→A22→A23→A24→A25→A26→A27→A28→A29→A30→A31→A32→Option β:=fun a0 a1 a2 a3 a4 a5 a6 a7 a8 a9 a10 a11 a12 a13 a14 a15 a16 a17 a18 a19 a20 a21 a22 a23 a24 a25 a26 a27 a28 a29 a30 a31 a32=>Option.map o (f a0 a1 a2 a3 a4 a5 a6 a7 a8 a9 a10 a11 a12 a13 a14 a15 a16 a17 a18 a19 a20 a21 a22 a23 a24 a25 a26 a27 a28 a29 a30 a31 a32)
abbrev alZ {A0 A1 A2 A3 A4 A5 A6 A7 A8 A9 A10 A11 A12 A13 A14 A15 A16 A17 A18 A19 A20 A21 A22 A23 A24 A25 A26 A27 A28 A29 A30 A31 A32 A33:Type} (o:α→β) (f:A0→A1→A2→A3→A4→A5→A6→A7→A8→A9→A10→A11→A12→A13→A14→A15→A16→A17→A18→A19→A20→A21→A22→A23→A24→A25→A26→A27→A28→A29→A30→A31→A32→A33→Option α):A0→A1→A2→A3→A4→A5→A6→A7→A8→A9→A10→A11→A12→A13→A14→A15→A16→A17→A18→A19→A20→A21→A22→A23→A24→A25→A26→A27→A28→A29→A30→A31→A32→A33→Option β:=fun a0 a1 a2 a3 a4 a5 a6 a7 a8 a9 a10 a11 a12 a13 a14 a15 a16 a17 a18 a19 a20 a21 a22 a23 a24 a25 a26 a27 a28 a29 a30 a31 a32 a33=>Option.map o (f a0 a1 a2 a3 a4 a5 a6 a7 a8 a9 a10 a11 a12 a13 a14 a15 a16 a17 a18 a19 a20 a21 a22 a23 a24 a25 a26 a27 a28 a29 a30 a31 a32 a33)
abbrev alY {A0 A1 A2 A3 A4 A5 A6 A7 A8 A9 A10 A11 A12 A13 A14 A15 A16 A17 A18 A19 A20 A21 A22 A23 A24 A25 A26 A27 A28 A29 A30 A31 A32 A33 A34:Type} (o:α→β) (f:A0→A1→A2→A3→A4→A5→A6→A7→A8→A9→A10→A11→A12→A13→A14→A15→A16→A17→A18→A19→A20→A21→A22→A23→A24→A25→A26→A27→A28→A29→A30→A31→A32→A33→A34→Option α):A0→A1→A2→A3→A4→A5→A6→A7→A8→A9→A10→A11→A12→A13→A14→A15→A16→A17→A18→A19→A20→A21→A22→A23→A24→A25→A26→A27→A28→A29→A30→A31→A32→A33→A34→Option β:=fun a0 a1 a2 a3 a4 a5 a6 a7 a8 a9 a10 a11 a12 a13 a14 a15 a16 a17 a18 a19 a20 a21 a22 a23 a24 a25 a26 a27 a28 a29 a30 a31 a32 a33 a34=>Option.map o (f a0 a1 a2 a3 a4 a5 a6 a7 a8 a9 a10 a11 a12 a13 a14 a15 a16 a17 a18 a19 a20 a21 a22 a23 a24 a25 a26 a27 a28 a29 a30 a31 a32 a33 a34)
abbrev alX {A0 A1 A2 A3 A4 A5 A6 A7 A8 A9 A10 A11 A12 A13 A14 A15 A16 A17 A18 A19 A20 A21 A22 A23 A24 A25 A26 A27 A28 A29 A30 A31 A32 A33 A34 A35:Type} (o:α→β) (f:A0→A1→A2→A3→A4→A5→A6→A7→A8→A9→A10→A11→A12→A13→A14→A15→A16→A17→A18→A19→A20→A21→A22→A23→A24→A25→A26→A27→A28→A29→A30→A31→A32→A33→A34→A35→Option α):A0→A1→A2→A3→A4→A5→A6→A7→A8→A9→A10→A11→A12→A13→A14→A15→A16→A17→A18→A19→A20→A21→A22→A23→A24→A25→A26→A27→A28→A29→A30→A31→A32→A33→A34→A35→Option β:=fun a0 a1 a2 a3 a4 a5 a6 a7 a8 a9 a10 a11 a12 a13 a14 a15 a16 a17 a18 a19 a20 a21 a22 a23 a24 a25 a26 a27 a28 a29 a30 a31 a32 a33 a34 a35=>Option.map o (f a0 a1 a2 a3 a4 a5 a6 a7 a8 a9 a10 a11 a12 a13 a14 a15 a16 a17 a18 a19 a20 a21 a22 a23 a24 a25 a26 a27 a28 a29 a30 a31 a32 a33 a34 a35)
abbrev alW {A0 A1 A2 A3 A4 A5 A6 A7 A8 A9 A10 A11 A12 A13 A14 A15 A16 A17 A18 A19 A20 A21 A22 A23 A24 A25 A26 A27 A28 A29 A30 A31 A32 A33 A34 A35 A36:Type} (o:α→β) (f:A0→A1→A2→A3→A4→A5→A6→A7→A8→A9→A10→A11→A12→A13→A14→A15→A16→A17→A18→A19→A20→A21→A22→A23→A24→A25→A26→A27→A28→A29→A30→A31→A32→A33→A34→A35→A36→Option α):A0→A1→A2→A3→A4→A5→A6→A7→A8→A9→A10→A11→A12→A13→A14→A15→A16→A17→A18→A19→A20→A21→A22→A23→A24→A25→A26→A27→A28→A29→A30→A31→A32→A33→A34→A35→A36→Option β:=fun a0 a1 a2 a3 a4 a5 a6 a7 a8 a9 a10 a11 a12 a13 a14 a15 a16 a17 a18 a19 a20 a21 a22 a23 a24 a25 a26 a27 a28 a29 a30 a31 a32 a33 a34 a35 a36=>Option.map o (f a0 a1 a2 a3 a4 a5 a6 a7 a8 a9 a10 a11 a12 a13 a14 a15 a16 a17 a18 a19 a20 a21 a22 a23 a24 a25 a26 a27 a28 a29 a30 a31 a32 a33 a34 a35 a36)
abbrev alV {A0 A1 A2 A3 A4 A5 A6 A7 A8 A9 A10 A11 A12 A13 A14 A15 A16 A17 A18 A19 A20 A21 A22 A23 A24 A25 A26 A27 A28 A29 A30 A31 A32 A33 A34 A35 A36 A37:Type} (o:α→β) (f:A0→A1→A2→A3→A4→A5→A6→A7→A8→A9→A10→A11→A12→A13→A14→A15→A16→A17→A18→A19→A20→A21→A22→A23→A24→A25→A26→A27→A28→A29→A30→A31→A32→A33→A34→A35→A36→A37→Option α):A0→A1→A2→A3→A4→A5→A6→A7→A8→A9→A10→A11→A12→A13→A14→A15→A16→A17→A18→A19→A20→A21→A22→A23→A24→A25→A26→A27→A28→A29→A30→A31→A32→A33→A34→A35→A36→A37→Option β:=fun a0 a1 a2 a3 a4 a5 a6 a7 a8 a9 a10 a11 a12 a13 a14 a15 a16 a17 a18 a19 a20 a21 a22 a23 a24 a25 a26 a27 a28 a29 a30 a31 a32 a33 a34 a35 a36 a37=>Option.map o (f a0 a1 a2 a3 a4 a5 a6 a7 a8 a9 a10 a11 a12 a13 a14 a15 a16 a17 a18 a19 a20 a21 a22 a23 a24 a25 a26 a27 a28 a29 a30 a31 a32 a33 a34 a35 a36 a37)
abbrev alU {A0 A1 A2 A3 A4 A5 A6 A7 A8 A9 A10 A11 A12 A13 A14 A15 A16 A17 A18 A19 A20 A21 A22 A23 A24 A25 A26 A27 A28 A29 A30 A31 A32 A33 A34 A35 A36 A37 A38:Type} (o:α→β) (f:A0→A1→A2→A3→A4→A5→A6→A7→A8→A9→A10→A11→A12→A13→A14→A15→A16→A17→A18→A19→A20→A21→A22→A23→A24→A25→A26→A27→A28→A29→A30→A31→A32→A33→A34→A35→A36→A37→A38→Option α):A0→A1→A2→A3→A4→A5→A6→A7→A8→A9→A10→A11→A12→A13→A14→A15→A16→A17→A18→A19→A20→A21→A22→A23→A24→A25→A26→A27→A28→A29→A30→A31→A32→A33→A34→A35→A36→A37→A38→Option β:=fun a0 a1 a2 a3 a4 a5 a6 a7 a8 a9 a10 a11 a12 a13 a14 a15 a16 a17 a18 a19 a20 a21 a22 a23 a24 a25 a26 a27 a28 a29 a30 a31 a32 a33 a34 a35 a36 a37 a38=>Option.map o (f a0 a1 a2 a3 a4 a5 a6 a7 a8 a9 a10 a11 a12 a13 a14 a15 a16 a17 a18 a19 a20 a21 a22 a23 a24 a25 a26 a27 a28 a29 a30 a31 a32 a33 a34 a35 a36 a37 a38)
abbrev alT {A0 A1 A2 A3 A4 A5 A6 A7 A8 A9 A10 A11 A12 A13 A14 A15 A16 A17 A18 A19 A20 A21 A22 A23 A24 A25 A26 A27 A28 A29 A30 A31 A32 A33 A34 A35 A36 A37 A38 A39:Type} (o:α→β) (f:A0→A1→A2→A3→A4→A5→A6→A7→A8→A9→A10→A11→A12→A13→A14→A15→A16→A17→A18→A19→A20→A21→A22→A23→A24→A25→A26→A27→A28→A29→A30→A31→A32→A33→A34→A35→A36→A37→A38→A39→Option α):A0→A1→A2→A3→A4→A5→A6→A7→A8→A9→A10→A11→A12→A13→A14→A15→A16→A17→A18→A19→A20→A21→A22→A23→A24→A25→A26→A27→A28→A29→A30→A31→A32→A33→A34→A35→A36→A37→A38→A39→Option β:=fun a0 a1 a2 a3 a4 a5 a6 a7 a8 a9 a10 a11 a12 a13 a14 a15 a16 a17 a18 a19 a20 a21 a22 a23 a24 a25 a26 a27 a28 a29 a30 a31 a32 a33 a34 a35 a36 a37 a38 a39=>Option.map o (f a0 a1 a2 a3 a4 a5 a6 a7 a8 a9 a10 a11 a12 a13 a14 a15 a16 a17 a18 a19 a20 a21 a22 a23 a24 a25 a26 a27 a28 a29 a30 a31 a32 a33 a34 a35 a36 a37 a38 a39)
end
theorem ss:(∀ {β:Type} (m:Bool) (t:Ty) (e:Option t.den) (k:t.den→Option β),cl m t e k=uH e k)∧(∀ {β:Type} (m:Bool) (t:Ty) (g:Bool) (v:t.den) (k:t.den→Option β),ce m t g v k=jq g v k)∧(∀ {β:Type} (m:Bool) (t:Ty) (x:t.den) (k:t.den→β),fz m t x k=k x)∧(∀ {β:Type} (m:Bool) (x:Nat) (k:Nat→β),fm m x k=k x) ∧
 (∀ {β γ:Type} (f:β→γ) (b:Bool) (k:Option β),Option.map f (ck b k)=ck b (Option.map f k))∧(∀ {β γ:Type} (f:β→γ) (c:Bool) (x y:Option β),Option.map f (bif c then x else y)=bif c then Option.map f x else Option.map f y)∧(∀ {α β γ:Type} (f:β→γ) (x:Option α) (k:α→Option β),Option.map f (uH x k)=uH x (fun r=>Option.map f (k r)))∧(∀ {α β γ:Type} (f:β→γ) (g:Bool) (v:α) (k:α→Option β),Option.map f (jq g v k)=jq g v (fun r=>Option.map f (k r))) ∧
 (∀ {β:Type} (m c:Bool) (k:Option β) (l:List Nat),nq m l c k=k)∧(∀ {β:Type} (m:Bool) (n:Nat) (c z:Bool) (k:Option β),nm m n c z k=ck (aC c z) k) ∧
 (∀ {α β:Type} (f:α→β) (x:α),Option.map f (some x)=some (f x))∧(∀ {α β:Type} (f:α→β),Option.map f none=none)∧(∀ {α β:Type} (o:α→β) (r:α),sm o r=some (o r)) ∧
 (∀ {α β:Type} (o:α→β) (f:Option α),mp0 o f=Option.map o (f))∧(∀ {α β A0:Type} (o:α→β) (f:A0→Option α) a0,mp1 o f a0=Option.map o (f a0))∧(∀ {α β A0 A1:Type} (o:α→β) (f:A0→A1→Option α) a0 a1,mp2 o f a0 a1=Option.map o (f a0 a1))∧(∀ {α β A0 A1 A2:Type} (o:α→β) (f:A0→A1→A2→Option α) a0 a1 a2,mp3 o f a0 a1 a2=Option.map o (f a0 a1 a2))∧(∀ {α β A0 A1 A2 A3:Type} (o:α→β) (f:A0→A1→A2→A3→Option α) a0 a1 a2 a3,mp4 o f a0 a1 a2 a3=Option.map o (f a0 a1 a2 a3))∧(∀ {α β A0 A1 A2 A3 A4:Type} (o:α→β) (f:A0→A1→A2→A3→A4→Option α) a0 a1 a2 a3 a4,mp5 o f a0 a1 a2 a3 a4=Option.map o (f a0 a1 a2 a3 a4))∧(∀ {α β A0 A1 A2 A3 A4 A5:Type} (o:α→β) (f:A0→A1→A2→A3→A4→A5→Option α) a0 a1 a2 a3 a4 a5,mp6 o f a0 a1 a2 a3 a4 a5=Option.map o (f a0 a1 a2 a3 a4 a5))∧(∀ {α β A0 A1 A2 A3 A4 A5 A6:Type} (o:α→β) (f:A0→A1→A2→A3→A4→A5→A6→Option α) a0 a1 a2 a3 a4 a5 a6,mp7 o f a0 a1 a2 a3 a4 a5 a6=Option.map o (f a0 a1 a2 a3 a4 a5 a6))∧(∀ {α β A0 A1 A2 A3 A4 A5 A6 A7:Type} (o:α→β) (f:A0→A1→A2→A3→A4→A5→A6→A7→Option α) a0 a1 a2 a3 a4 a5 a6 a7,mp8 o f a0 a1 a2 a3 a4 a5 a6 a7=Option.map o (f a0 a1 a2 a3 a4 a5 a6 a7))∧(∀ {α β A0 A1 A2 A3 A4 A5 A6 A7 A8:Type} (o:α→β) (f:A0→A1→A2→A3→A4→A5→A6→A7→A8→Option α) a0 a1 a2 a3 a4 a5 a6 a7 a8,mp9 o f a0 a1 a2 a3 a4 a5 a6 a7 a8=Option.map o (f a0 a1 a2 a3 a4 a5 a6 a7 a8))∧(∀ {α β A0 A1 A2 A3 A4 A5 A6 A7 A8 A9:Type} (o:α→β) (f:A0→A1→A2→A3→A4→A5→A6→A7→A8→A9→Option α) a0 a1 a2 a3 a4 a5 a6 a7 a8 a9,wA o f a0 a1 a2 a3 a4 a5 a6 a7 a8 a9=Option.map o (f a0 a1 a2 a3 a4 a5 a6 a7 a8 a9))∧(∀ {α β A0 A1 A2 A3 A4 A5 A6 A7 A8 A9 A10:Type} (o:α→β) (f:A0→A1→A2→A3→A4→A5→A6→A7→A8→A9→A10→Option α) a0 a1 a2 a3 a4 a5 a6 a7 a8 a9 a10,yx o f a0 a1 a2 a3 a4 a5 a6 a7 a8 a9 a10=Option.map o (f a0 a1 a2 a3 a4 a5 a6 a7 a8 a9 a10))∧(∀ {α β A0 A1 A2 A3 A4 A5 A6 A7 A8 A9 A10 A11:Type} (o:α→β) (f:A0→A1→A2→A3→A4→A5→A6→A7→A8→A9→A10→A11→Option α) a0 a1 a2 a3 a4 a5 a6 a7 a8 a9 a10 a11,ahn o f a0 a1 a2 a3 a4 a5 a6 a7 a8 a9 a10 a11=Option.map o (f a0 a1 a2 a3 a4 a5 a6 a7 a8 a9 a10 a11))∧(∀ {α β A0 A1 A2 A3 A4 A5 A6 A7 A8 A9 A10 A11 A12:Type} (o:α→β) (f:A0→A1→A2→A3→A4→A5→A6→A7→A8→A9→A10→A11→A12→Option α) a0 a1 a2 a3 a4 a5 a6 a7 a8 a9 a10 a11 a12,qX o f a0 a1 a2 a3 a4 a5 a6 a7 a8 a9 a10 a11 a12=Option.map o (f a0 a1 a2 a3 a4 a5 a6 a7 a8 a9 a10 a11 a12))∧(∀ {α β A0 A1 A2 A3 A4 A5 A6 A7 A8 A9 A10 A11 A12 A13:Type} (o:α→β) (f:A0→A1→A2→A3→A4→A5→A6→A7→A8→A9→A10→A11→A12→A13→Option α) a0 a1 a2 a3 a4 a5 a6 a7 a8 a9 a10 a11 a12 a13,amh o f a0 a1 a2 a3 a4 a5 a6 a7 a8 a9 a10 a11 a12 a13=Option.map o (f a0 a1 a2 a3 a4 a5 a6 a7 a8 a9 a10 a11 a12 a13))∧(∀ {α β A0 A1 A2 A3 A4 A5 A6 A7 A8 A9 A10 A11 A12 A13 A14:Type} (o:α→β) (f:A0→A1→A2→A3→A4→A5→A6→A7→A8→A9→A10→A11→A12→A13→A14→Option α) a0 a1 a2 a3 a4 a5 a6 a7 a8 a9 a10 a11 a12 a13 a14,aj7 o f a0 a1 a2 a3 a4 a5 a6 a7 a8 a9 a10 a11 a12 a13 a14=Option.map o (f a0 a1 a2 a3 a4 a5 a6 a7 a8 a9 a10 a11 a12 a13 a14))∧(∀ {α β A0 A1 A2 A3 A4 A5 A6 A7 A8 A9 A10 A11 A12 A13 A14 A15:Type} (o:α→β) (f:A0→A1→A2→A3→A4→A5→A6→A7→A8→A9→A10→A11→A12→A13→A14→A15→Option α) a0 a1 a2 a3 a4 a5 a6 a7 a8 a9 a10 a11 a12 a13 a14 a15,VH o f a0 a1 a2 a3 a4 a5 a6 a7 a8 a9 a10 a11 a12 a13 a14 a15=Option.map o (f a0 a1 a2 a3 a4 a5 a6 a7 a8 a9 a10 a11 a12 a13 a14 a15))∧(∀ {α β A0 A1 A2 A3 A4 A5 A6 A7 A8 A9 A10 A11 A12 A13 A14 A15 A16:Type} (o:α→β) (f:A0→A1→A2→A3→A4→A5→A6→A7→A8→A9→A10→A11→A12→A13→A14→A15→A16→Option α) a0 a1 a2 a3 a4 a5 a6 a7 a8 a9 a10 a11 a12 a13 a14 a15 a16,amg o f a0 a1 a2 a3 a4 a5 a6 a7 a8 a9 a10 a11 a12 a13 a14 a15 a16=Option.map o (f a0 a1 a2 a3 a4 a5 a6 a7 a8 a9 a10 a11 a12 a13 a14 a15 a16))∧(∀ {α β A0 A1 A2 A3 A4 A5 A6 A7 A8 A9 A10 A11 A12 A13 A14 A15 A16 A17:Type} (o:α→β) (f:A0→A1→A2→A3→A4→A5→A6→A7→A8→A9→A10→A11→A12→A13→A14→A15→A16→A17→Option α) a0 a1 a2 a3 a4 a5 a6 a7 a8 a9 a10 a11 a12 a13 a14 a15 a16 a17,amf o f a0 a1 a2 a3 a4 a5 a6 a7 a8 a9 a10 a11 a12 a13 a14 a15 a16 a17=Option.map o (f a0 a1 a2 a3 a4 a5 a6 a7 a8 a9 a10 a11 a12 a13 a14 a15 a16 a17))∧(∀ {α β A0 A1 A2 A3 A4 A5 A6 A7 A8 A9 A10 A11 A12 A13 A14 A15 A16 A17 A18:Type} (o:α→β) (f:A0→A1→A2→A3→A4→A5→A6→A7→A8→A9→A10→A11→A12→A13→A14→A15→A16→A17→A18→Option α) a0 a1 a2 a3 a4 a5 a6 a7 a8 a9 a10 a11 a12 a13 a14 a15 a16 a17 a18,ame o f a0 a1 a2 a3 a4 a5 a6 a7 a8 a9 a10 a11 a12 a13 a14 a15 a16 a17 a18=Option.map o (f a0 a1 a2 a3 a4 a5 a6 a7 a8 a9 a10 a11 a12 a13 a14 a15 a16 a17 a18))∧(∀ {α β A0 A1 A2 A3 A4 A5 A6 A7 A8 A9 A10 A11 A12 A13 A14 A15 A16 A17 A18 A19:Type} (o:α→β) (f:A0→A1→A2→A3→A4→A5→A6→A7→A8→A9→A10→A11→A12→A13→A14→A15→A16→A17→A18→A19→Option α) a0 a1 a2 a3 a4 a5 a6 a7 a8 a9 a10 a11 a12 a13 a14 a15 a16 a17 a18 a19,amd o f a0 a1 a2 a3 a4 a5 a6 a7 a8 a9 a10 a11 a12 a13 a14 a15 a16 a17 a18 a19=Option.map o (f a0 a1 a2 a3 a4 a5 a6 a7 a8 a9 a10 a11 a12 a13 a14 a15 a16 a17 a18 a19))∧(∀ {α β A0 A1 A2 A3 A4 A5 A6 A7 A8 A9 A10 A11 A12 A13 A14 A15 A16 A17 A18 A19 A20:Type} (o:α→β) (f:A0→A1→A2→A3→A4→A5→A6→A7→A8→A9→A10→A11→A12→A13→A14→A15→A16→A17→A18→A19→A20→Option α) a0 a1 a2 a3 a4 a5 a6 a7 a8 a9 a10 a11 a12 a13 a14 a15 a16 a17 a18 a19 a20,amc o f a0 a1 a2 a3 a4 a5 a6 a7 a8 a9 a10 a11 a12 a13 a14 a15 a16 a17 a18 a19 a20=Option.map o (f a0 a1 a2 a3 a4 a5 a6 a7 a8 a9 a10 a11 a12 a13 a14 a15 a16 a17 a18 a19 a20))∧(∀ {α β A0 A1 A2 A3 A4 A5 A6 A7 A8 A9 A10 A11 A12 A13 A14 A15 A16 A17 A18 A19 A20 A21:Type} (o:α→β) (f:A0→A1→A2→A3→A4→A5→A6→A7→A8→A9→A10→A11→A12→A13→A14→A15→A16→A17→A18→A19→A20→A21→Option α) a0 a1 a2 a3 a4 a5 a6 a7 a8 a9 a10 a11 a12 a13 a14 a15 a16 a17 a18 a19 a20 a21,amb o f a0 a1 a2 a3 a4 a5 a6 a7 a8 a9 a10 a11 a12 a13 a14 a15 a16 a17 a18 a19 a20 a21=Option.map o (f a0 a1 a2 a3 a4 a5 a6 a7 a8 a9 a10 a11 a12 a13 a14 a15 a16 a17 a18 a19 a20 a21))∧(∀ {α β A0 A1 A2 A3 A4 A5 A6 A7 A8 A9 A10 A11 A12 A13 A14 A15 A16 A17 A18 A19 A20 A21 A22:Type} (o:α→β) (f:A0→A1→A2→A3→A4→A5→A6→A7→A8→A9→A10→A11→A12→A13→A14→A15→A16→A17→A18→A19→A20→A21→A22→Option α) a0 a1 a2 a3 a4 a5 a6 a7 a8 a9 a10 a11 a12 a13 a14 a15 a16 a17 a18 a19 a20 a21 a22,ama o f a0 a1 a2 a3 a4 a5 a6 a7 a8 a9 a10 a11 a12 a13 a14 a15 a16 a17 a18 a19 a20 a21 a22=Option.map o (f a0 a1 a2 a3 a4 a5 a6 a7 a8 a9 a10 a11 a12 a13 a14 a15 a16 a17 a18 a19 a20 a21 a22))∧(∀ {α β A0 A1 A2 A3 A4 A5 A6 A7 A8 A9 A10 A11 A12 A13 A14 A15 A16 A17 A18 A19 A20 A21 A22 A23:Type} (o:α→β) (f:A0→A1→A2→A3→A4→A5→A6→A7→A8→A9→A10→A11→A12→A13→A14→A15→A16→A17→A18→A19→A20→A21→A22→A23→Option α) a0 a1 a2 a3 a4 a5 a6 a7 a8 a9 a10 a11 a12 a13 a14 a15 a16 a17 a18 a19 a20 a21 a22 a23,al9 o f a0 a1 a2 a3 a4 a5 a6 a7 a8 a9 a10 a11 a12 a13 a14 a15 a16 a17 a18 a19 a20 a21 a22 a23=Option.map o (f a0 a1 a2 a3 a4 a5 a6 a7 a8 a9 a10 a11 a12 a13 a14 a15 a16 a17 a18 a19 a20 a21 a22 a23))∧(∀ {α β A0 A1 A2 A3 A4 A5 A6 A7 A8 A9 A10 A11 A12 A13 A14 A15 A16 A17 A18 A19 A20 A21 A22 A23 A24:Type} (o:α→β) (f:A0→A1→A2→A3→A4→A5→A6→A7→A8→A9→A10→A11→A12→A13→A14→A15→A16→A17→A18→A19→A20→A21→A22→A23→A24→Option α) a0 a1 a2 a3 a4 a5 a6 a7 a8 a9 a10 a11 a12 a13 a14 a15 a16 a17 a18 a19 a20 a21 a22 a23 a24,al8 o f a0 a1 a2 a3 a4 a5 a6 a7 a8 a9 a10 a11 a12 a13 a14 a15 a16 a17 a18 a19 a20 a21 a22 a23 a24=Option.map o (f a0 a1 a2 a3 a4 a5 a6 a7 a8 a9 a10 a11 a12 a13 a14 a15 a16 a17 a18 a19 a20 a21 a22 a23 a24))∧(∀ {α β A0 A1 A2 A3 A4 A5 A6 A7 A8 A9 A10 A11 A12 A13 A14 A15 A16 A17 A18 A19 A20 A21 A22 A23 A24 A25:Type} (o:α→β) (f:A0→A1→A2→A3→A4→A5→A6→A7→A8→A9→A10→A11→A12→A13→A14→A15→A16→A17→A18→A19→A20→A21→A22→A23→A24→A25→Option α) a0 a1 a2 a3 a4 a5 a6 a7 a8 a9 a10 a11 a12 a13 a14 a15 a16 a17 a18 a19 a20 a21 a22 a23 a24 a25,al7 o f a0 a1 a2 a3 a4 a5 a6 a7 a8 a9 a10 a11 a12 a13 a14 a15 a16 a17 a18 a19 a20 a21 a22 a23 a24 a25=Option.map o (f a0 a1 a2 a3 a4 a5 a6 a7 a8 a9 a10 a11 a12 a13 a14 a15 a16 a17 a18 a19 a20 a21 a22 a23 a24 a25))∧(∀ {α β A0 A1 A2 A3 A4 A5 A6 A7 A8 A9 A10 A11 A12 A13 A14 A15 A16 A17 A18 A19 A20 A21 A22 A23 A24 A25 A26:Type} (o:α→β) (f:A0→A1→A2→A3→A4→A5→A6→A7→A8→A9→A10→A11→A12→A13→A14→A15→A16→A17→A18→A19→A20→A21→A22→A23→A24→A25→A26→Option α) a0 a1 a2 a3 a4 a5 a6 a7 a8 a9 a10 a11 a12 a13 a14 a15 a16 a17 a18 a19 a20 a21 a22 a23 a24 a25 a26,al6 o f a0 a1 a2 a3 a4 a5 a6 a7 a8 a9 a10 a11 a12 a13 a14 a15 a16 a17 a18 a19 a20 a21 a22 a23 a24 a25 a26=Option.map o (f a0 a1 a2 a3 a4 a5 a6 a7 a8 a9 a10 a11 a12 a13 a14 a15 a16 a17 a18 a19 a20 a21 a22 a23 a24 a25 a26))∧(∀ {α β A0 A1 A2 A3 A4 A5 A6 A7 A8 A9 A10 A11 A12 A13 A14 A15 A16 A17 A18 A19 A20 A21 A22 A23 A24 A25 A26 A27:Type} (o:α→β) (f:A0→A1→A2→A3→A4→A5→A6→A7→A8→A9→A10→A11→A12→A13→A14→A15→A16→A17→A18→A19→A20→A21→A22→A23→A24→A25→A26→A27→Option α) a0 a1 a2 a3 a4 a5 a6 a7 a8 a9 a10 a11 a12 a13 a14 a15 a16 a17 a18 a19 a20 a21 a22 a23 a24 a25 a26 a27,al5 o f a0 a1 a2 a3 a4 a5 a6 a7 a8 a9 a10 a11 a12 a13 a14 a15 a16 a17 a18 a19 a20 a21 a22 a23 a24 a25 a26 a27=Option.map o (f a0 a1 a2 a3 a4 a5 a6 a7 a8 a9 a10 a11 a12 a13 a14 a15 a16 a17 a18 a19 a20 a21 a22 a23 a24 a25 a26 a27))∧(∀ {α β A0 A1 A2 A3 A4 A5 A6 A7 A8 A9 A10 A11 A12 A13 A14 A15 A16 A17 A18 A19 A20 A21 A22 A23 A24 A25 A26 A27 A28:Type} (o:α→β) (f:A0→A1→A2→A3→A4→A5→A6→A7→A8→A9→A10→A11→A12→A13→A14→A15→A16→A17→A18→A19→A20→A21→A22→A23→A24→A25→A26→A27→A28→Option α) a0 a1 a2 a3 a4 a5 a6 a7 a8 a9 a10 a11 a12 a13 a14 a15 a16 a17 a18 a19 a20 a21 a22 a23 a24 a25 a26 a27 a28,al4 o f a0 a1 a2 a3 a4 a5 a6 a7 a8 a9 a10 a11 a12 a13 a14 a15 a16 a17 a18 a19 a20 a21 a22 a23 a24 a25 a26 a27 a28=Option.map o (f a0 a1 a2 a3 a4 a5 a6 a7 a8 a9 a10 a11 a12 a13 a14 a15 a16 a17 a18 a19 a20 a21 a22 a23 a24 a25 a26 a27 a28))∧(∀ {α β A0 A1 A2 A3 A4 A5 A6 A7 A8 A9 A10 A11 A12 A13 A14 A15 A16 A17 A18 A19 A20 A21 A22 A23 A24 A25 A26 A27 A28 A29:Type} (o:α→β) (f:A0→A1→A2→A3→A4→A5→A6→A7→A8→A9→A10→A11→A12→A13→A14→A15→A16→A17→A18→A19→A20→A21→A22→A23→A24→A25→A26→A27→A28→A29→Option α) a0 a1 a2 a3 a4 a5 a6 a7 a8 a9 a10 a11 a12 a13 a14 a15 a16 a17 a18 a19 a20 a21 a22 a23 a24 a25 a26 a27 a28 a29,al3 o f a0 a1 a2 a3 a4 a5 a6 a7 a8 a9 a10 a11 a12 a13 a14 a15 a16 a17 a18 a19 a20 a21 a22 a23 a24 a25 a26 a27 a28 a29=Option.map o (f a0 a1 a2 a3 a4 a5 a6 a7 a8 a9 a10 a11 a12 a13 a14 a15 a16 a17 a18 a19 a20 a21 a22 a23 a24 a25 a26 a27 a28 a29))∧(∀ {α β A0 A1 A2 A3 A4 A5 A6 A7 A8 A9 A10 A11 A12 A13 A14 A15 A16 A17 A18 A19 A20 A21 A22 A23 A24 A25 A26 A27 A28 A29 A30:Type} (o:α→β) (f:A0→A1→A2→A3→A4→A5→A6→A7→A8→A9→A10→A11→A12→A13→A14→A15→A16→A17→A18→A19→A20→A21→A22→A23→A24→A25→A26→A27→A28→A29→A30→Option α) a0 a1 a2 a3 a4 a5 a6 a7 a8 a9 a10 a11 a12 a13 a14 a15 a16 a17 a18 a19 a20 a21 a22 a23 a24 a25 a26 a27 a28 a29 a30,al2 o f a0 a1 a2 a3 a4 a5 a6 a7 a8 a9 a10 a11 a12 a13 a14 a15 a16 a17 a18 a19 a20 a21 a22 a23 a24 a25 a26 a27 a28 a29 a30=Option.map o (f a0 a1 a2 a3 a4 a5 a6 a7 a8 a9 a10 a11 a12 a13 a14 a15 a16 a17 a18 a19 a20 a21 a22 a23 a24 a25 a26 a27 a28 a29 a30))∧(∀ {α β A0 A1 A2 A3 A4 A5 A6 A7 A8 A9 A10 A11 A12 A13 A14 A15 A16 A17 A18 A19 A20 A21 A22 A23 A24 A25 A26 A27 A28 A29 A30 A31:Type} (o:α→β) (f:A0→A1→A2→A3→A4→A5→A6→A7→A8→A9→A10→A11→A12→A13→A14→A15→A16→A17→A18→A19→A20→A21→A22→A23→A24→A25→A26→A27→A28→A29→A30→A31→Option α) a0 a1 a2 a3 a4 a5 a6 a7 a8 a9 a10 a11 a12 a13 a14 a15 a16 a17 a18 a19 a20 a21 a22 a23 a24 a25 a26 a27 a28 a29 a30 a31,al1 o f a0 a1 a2 a3 a4 a5 a6 a7 a8 a9 a10 a11 a12 a13 a14 a15 a16 a17 a18 a19 a20 a21 a22 a23 a24 a25 a26 a27 a28 a29 a30 a31=Option.map o (f a0 a1 a2 a3 a4 a5 a6 a7 a8 a9 a10 a11 a12 a13 a14 a15 a16 a17 a18 a19 a20 a21 a22 a23 a24 a25 a26 a27 a28 a29 a30 a31))∧(∀ {α β A0 A1 A2 A3 A4 A5 A6 A7 A8 A9 A10 A11 A12 A13 A14 A15 A16 A17 A18 A19 A20 A21 A22 A23 A24 A25 A26 A27 A28 A29 A30 A31 A32:Type} (o:α→β) (f:A0→A1→A2→A3→A4→A5→A6→A7→A8→A9→A10→A11→A12→A13→A14→A15→A16→A17→A18→A19→A20→A21→A22→A23→A24→A25→A26→A27→A28→A29→A30→A31→A32→Option α) a0 a1 a2 a3 a4 a5 a6 a7 a8 a9 a10 a11 a12 a13 a14 a15 a16 a17 a18 a19 a20 a21 a22 a23 a24 a25 a26 a27 a28 a29 a30 a31 a32,al0 o f a0 a1 a2 a3 a4 a5 a6 a7 a8 a9 a10 a11 a12 a13 a14 a15 a16 a17 a18 a19 a20 a21 a22 a23 a24 a25 a26 a27 a28 a29 a30 a31 a32=Option.map o (f a0 a1 a2 a3 a4 a5 a6 a7 a8 a9 a10 a11 a12 a13 a14 a15 a16 a17 a18 a19 a20 a21 a22 a23 a24 a25 a26 a27 a28 a29 a30 a31 a32))∧(∀ {α β A0 A1 A2 A3 A4 A5 A6 A7 A8 A9 A10 A11 A12 A13 A14 A15 A16 A17 A18 A19 A20 A21 A22 A23 A24 A25 A26 A27 A28 A29 A30 A31 A32 A33:Type} (o:α→β) (f:A0→A1→A2→A3→A4→A5→A6→A7→A8→A9→A10→A11→A12→A13→A14→A15→A16→A17→A18→A19→A20→A21→A22→A23→A24→A25→A26→A27→A28→A29→A30→A31→A32→A33→Option α) a0 a1 a2 a3 a4 a5 a6 a7 a8 a9 a10 a11 a12 a13 a14 a15 a16 a17 a18 a19 a20 a21 a22 a23 a24 a25 a26 a27 a28 a29 a30 a31 a32 a33,alZ o f a0 a1 a2 a3 a4 a5 a6 a7 a8 a9 a10 a11 a12 a13 a14 a15 a16 a17 a18 a19 a20 a21 a22 a23 a24 a25 a26 a27 a28 a29 a30 a31 a32 a33=Option.map o (f a0 a1 a2 a3 a4 a5 a6 a7 a8 a9 a10 a11 a12 a13 a14 a15 a16 a17 a18 a19 a20 a21 a22 a23 a24 a25 a26 a27 a28 a29 a30 a31 a32 a33))∧(∀ {α β A0 A1 A2 A3 A4 A5 A6 A7 A8 A9 A10 A11 A12 A13 A14 A15 A16 A17 A18 A19 A20 A21 A22 A23 A24 A25 A26 A27 A28 A29 A30 A31 A32 A33 A34:Type} (o:α→β) (f:A0→A1→A2→A3→A4→A5→A6→A7→A8→A9→A10→A11→A12→A13→A14→A15→A16→A17→A18→A19→A20→A21→A22→A23→A24→A25→A26→A27→A28→A29→A30→A31→A32→A33→A34→Option α) a0 a1 a2 a3 a4 a5 a6 a7 a8 a9 a10 a11 a12 a13 a14 a15 a16 a17 a18 a19 a20 a21 a22 a23 a24 a25 a26 a27 a28 a29 a30 a31 a32 a33 a34,alY o f a0 a1 a2 a3 a4 a5 a6 a7 a8 a9 a10 a11 a12 a13 a14 a15 a16 a17 a18 a19 a20 a21 a22 a23 a24 a25 a26 a27 a28 a29 a30 a31 a32 a33 a34=Option.map o (f a0 a1 a2 a3 a4 a5 a6 a7 a8 a9 a10 a11 a12 a13 a14 a15 a16 a17 a18 a19 a20 a21 a22 a23 a24 a25 a26 a27 a28 a29 a30 a31 a32 a33 a34))∧(∀ {α β A0 A1 A2 A3 A4 A5 A6 A7 A8 A9 A10 A11 A12 A13 A14 A15 A16 A17 A18 A19 A20 A21 A22 A23 A24 A25 A26 A27 A28 A29 A30 A31 A32 A33 A34 A35:Type} (o:α→β) (f:A0→A1→A2→A3→A4→A5→A6→A7→A8→A9→A10→A11→A12→A13→A14→A15→A16→A17→A18→A19→A20→A21→A22→A23→A24→A25→A26→A27→A28→A29→A30→A31→A32→A33→A34→A35→Option α) a0 a1 a2 a3 a4 a5 a6 a7 a8 a9 a10 a11 a12 a13 a14 a15 a16 a17 a18 a19 a20 a21 a22 a23 a24 a25 a26 a27 a28 a29 a30 a31 a32 a33 a34 a35,alX o f a0 a1 a2 a3 a4 a5 a6 a7 a8 a9 a10 a11 a12 a13 a14 a15 a16 a17 a18 a19 a20 a21 a22 a23 a24 a25 a26 a27 a28 a29 a30 a31 a32 a33 a34 a35=Option.map o (f a0 a1 a2 a3 a4 a5 a6 a7 a8 a9 a10 a11 a12 a13 a14 a15 a16 a17 a18 a19 a20 a21 a22 a23 a24 a25 a26 a27 a28 a29 a30 a31 a32 a33 a34 a35))∧(∀ {α β A0 A1 A2 A3 A4 A5 A6 A7 A8 A9 A10 A11 A12 A13 A14 A15 A16 A17 A18 A19 A20 A21 A22 A23 A24 A25 A26 A27 A28 A29 A30 A31 A32 A33 A34 A35 A36:Type} (o:α→β) (f:A0→A1→A2→A3→A4→A5→A6→A7→A8→A9→A10→A11→A12→A13→A14→A15→A16→A17→A18→A19→A20→A21→A22→A23→A24→A25→A26→A27→A28→A29→A30→A31→A32→A33→A34→A35→A36→Option α) a0 a1 a2 a3 a4 a5 a6 a7 a8 a9 a10 a11 a12 a13 a14 a15 a16 a17 a18 a19 a20 a21 a22 a23 a24 a25 a26 a27 a28 a29 a30 a31 a32 a33 a34 a35 a36,alW o f a0 a1 a2 a3 a4 a5 a6 a7 a8 a9 a10 a11 a12 a13 a14 a15 a16 a17 a18 a19 a20 a21 a22 a23 a24 a25 a26 a27 a28 a29 a30 a31 a32 a33 a34 a35 a36=Option.map o (f a0 a1 a2 a3 a4 a5 a6 a7 a8 a9 a10 a11 a12 a13 a14 a15 a16 a17 a18 a19 a20 a21 a22 a23 a24 a25 a26 a27 a28 a29 a30 a31 a32 a33 a34 a35 a36))∧(∀ {α β A0 A1 A2 A3 A4 A5 A6 A7 A8 A9 A10 A11 A12 A13 A14 A15 A16 A17 A18 A19 A20 A21 A22 A23 A24 A25 A26 A27 A28 A29 A30 A31 A32 A33 A34 A35 A36 A37:Type} (o:α→β) (f:A0→A1→A2→A3→A4→A5→A6→A7→A8→A9→A10→A11→A12→A13→A14→A15→A16→A17→A18→A19→A20→A21→A22→A23→A24→A25→A26→A27→A28→A29→A30→A31→A32→A33→A34→A35→A36→A37→Option α) a0 a1 a2 a3 a4 a5 a6 a7 a8 a9 a10 a11 a12 a13 a14 a15 a16 a17 a18 a19 a20 a21 a22 a23 a24 a25 a26 a27 a28 a29 a30 a31 a32 a33 a34 a35 a36 a37,alV o f a0 a1 a2 a3 a4 a5 a6 a7 a8 a9 a10 a11 a12 a13 a14 a15 a16 a17 a18 a19 a20 a21 a22 a23 a24 a25 a26 a27 a28 a29 a30 a31 a32 a33 a34 a35 a36 a37=Option.map o (f a0 a1 a2 a3 a4 a5 a6 a7 a8 a9 a10 a11 a12 a13 a14 a15 a16 a17 a18 a19 a20 a21 a22 a23 a24 a25 a26 a27 a28 a29 a30 a31 a32 a33 a34 a35 a36 a37))∧(∀ {α β A0 A1 A2 A3 A4 A5 A6 A7 A8 A9 A10 A11 A12 A13 A14 A15 A16 A17 A18 A19 A20 A21 A22 A23 A24 A25 A26 A27 A28 A29 A30 A31 A32 A33 A34 A35 A36 A37 A38:Type} (o:α→β) (f:A0→A1→A2→A3→A4→A5→A6→A7→A8→A9→A10→A11→A12→A13→A14→A15→A16→A17→A18→A19→A20→A21→A22→A23→A24→A25→A26→A27→A28→A29→A30→A31→A32→A33→A34→A35→A36→A37→A38→Option α) a0 a1 a2 a3 a4 a5 a6 a7 a8 a9 a10 a11 a12 a13 a14 a15 a16 a17 a18 a19 a20 a21 a22 a23 a24 a25 a26 a27 a28 a29 a30 a31 a32 a33 a34 a35 a36 a37 a38,alU o f a0 a1 a2 a3 a4 a5 a6 a7 a8 a9 a10 a11 a12 a13 a14 a15 a16 a17 a18 a19 a20 a21 a22 a23 a24 a25 a26 a27 a28 a29 a30 a31 a32 a33 a34 a35 a36 a37 a38=Option.map o (f a0 a1 a2 a3 a4 a5 a6 a7 a8 a9 a10 a11 a12 a13 a14 a15 a16 a17 a18 a19 a20 a21 a22 a23 a24 a25 a26 a27 a28 a29 a30 a31 a32 a33 a34 a35 a36 a37 a38))∧(∀ {α β A0 A1 A2 A3 A4 A5 A6 A7 A8 A9 A10 A11 A12 A13 A14 A15 A16 A17 A18 A19 A20 A21 A22 A23 A24 A25 A26 A27 A28 A29 A30 A31 A32 A33 A34 A35 A36 A37 A38 A39:Type} (o:α→β) (f:A0→A1→A2→A3→A4→A5→A6→A7→A8→A9→A10→A11→A12→A13→A14→A15→A16→A17→A18→A19→A20→A21→A22→A23→A24→A25→A26→A27→A28→A29→A30→A31→A32→A33→A34→A35→A36→A37→A38→A39→Option α) a0 a1 a2 a3 a4 a5 a6 a7 a8 a9 a10 a11 a12 a13 a14 a15 a16 a17 a18 a19 a20 a21 a22 a23 a24 a25 a26 a27 a28 a29 a30 a31 a32 a33 a34 a35 a36 a37 a38 a39,alT o f a0 a1 a2 a3 a4 a5 a6 a7 a8 a9 a10 a11 a12 a13 a14 a15 a16 a17 a18 a19 a20 a21 a22 a23 a24 a25 a26 a27 a28 a29 a30 a31 a32 a33 a34 a35 a36 a37 a38 a39=Option.map o (f a0 a1 a2 a3 a4 a5 a6 a7 a8 a9 a10 a11 a12 a13 a14 a15 a16 a17 a18 a19 a20 a21 a22 a23 a24 a25 a26 a27 a28 a29 a30 a31 a32 a33 a34 a35 a36 a37 a38 a39)) :=
 ⟨s0,s1,s2,s3,s4,s5,s6,s7,zM,Tr,s8,s9,fun _ _=>rfl,fun _ _=>rfl,fun _ _ _=>rfl,fun _ _ _ _=>rfl,fun _ _ _ _ _=>rfl,fun _ _ _ _ _ _=>rfl,fun _ _ _ _ _ _ _=>rfl,fun _ _ _ _ _ _ _ _=>rfl,fun _ _ _ _ _ _ _ _ _=>rfl,fun _ _ _ _ _ _ _ _ _ _=>rfl,fun _ _ _ _ _ _ _ _ _ _ _=>rfl,fun _ _ _ _ _ _ _ _ _ _ _ _=>rfl,fun _ _ _ _ _ _ _ _ _ _ _ _ _=>rfl,fun _ _ _ _ _ _ _ _ _ _ _ _ _ _=>rfl,fun _ _ _ _ _ _ _ _ _ _ _ _ _ _ _=>rfl,fun _ _ _ _ _ _ _ _ _ _ _ _ _ _ _ _=>rfl,fun _ _ _ _ _ _ _ _ _ _ _ _ _ _ _ _ _=>rfl,fun _ _ _ _ _ _ _ _ _ _ _ _ _ _ _ _ _ _=>rfl,fun _ _ _ _ _ _ _ _ _ _ _ _ _ _ _ _ _ _ _=>rfl,fun _ _ _ _ _ _ _ _ _ _ _ _ _ _ _ _ _ _ _ _=>rfl,fun _ _ _ _ _ _ _ _ _ _ _ _ _ _ _ _ _ _ _ _ _=>rfl,fun _ _ _ _ _ _ _ _ _ _ _ _ _ _ _ _ _ _ _ _ _ _=>rfl,fun _ _ _ _ _ _ _ _ _ _ _ _ _ _ _ _ _ _ _ _ _ _ _=>rfl,fun _ _ _ _ _ _ _ _ _ _ _ _ _ _ _ _ _ _ _ _ _ _ _ _=>rfl,fun _ _ _ _ _ _ _ _ _ _ _ _ _ _ _ _ _ _ _ _ _ _ _ _ _=>rfl,fun _ _ _ _ _ _ _ _ _ _ _ _ _ _ _ _ _ _ _ _ _ _ _ _ _ _=>rfl,fun _ _ _ _ _ _ _ _ _ _ _ _ _ _ _ _ _ _ _ _ _ _ _ _ _ _ _=>rfl,fun _ _ _ _ _ _ _ _ _ _ _ _ _ _ _ _ _ _ _ _ _ _ _ _ _ _ _ _=>rfl,fun _ _ _ _ _ _ _ _ _ _ _ _ _ _ _ _ _ _ _ _ _ _ _ _ _ _ _ _ _=>rfl,fun _ _ _ _ _ _ _ _ _ _ _ _ _ _ _ _ _ _ _ _ _ _ _ _ _ _ _ _ _ _=>rfl,fun _ _ _ _ _ _ _ _ _ _ _ _ _ _ _ _ _ _ _ _ _ _ _ _ _ _ _ _ _ _ _=>rfl,fun _ _ _ _ _ _ _ _ _ _ _ _ _ _ _ _ _ _ _ _ _ _ _ _ _ _ _ _ _ _ _ _=>rfl,fun _ _ _ _ _ _ _ _ _ _ _ _ _ _ _ _ _ _ _ _ _ _ _ _ _ _ _ _ _ _ _ _ _=>rfl,fun _ _ _ _ _ _ _ _ _ _ _ _ _ _ _ _ _ _ _ _ _ _ _ _ _ _ _ _ _ _ _ _ _ _=>rfl,fun _ _ _ _ _ _ _ _ _ _ _ _ _ _ _ _ _ _ _ _ _ _ _ _ _ _ _ _ _ _ _ _ _ _ _=>rfl,fun _ _ _ _ _ _ _ _ _ _ _ _ _ _ _ _ _ _ _ _ _ _ _ _ _ _ _ _ _ _ _ _ _ _ _ _=>rfl,fun _ _ _ _ _ _ _ _ _ _ _ _ _ _ _ _ _ _ _ _ _ _ _ _ _ _ _ _ _ _ _ _ _ _ _ _ _=>rfl,fun _ _ _ _ _ _ _ _ _ _ _ _ _ _ _ _ _ _ _ _ _ _ _ _ _ _ _ _ _ _ _ _ _ _ _ _ _ _=>rfl,fun _ _ _ _ _ _ _ _ _ _ _ _ _ _ _ _ _ _ _ _ _ _ _ _ _ _ _ _ _ _ _ _ _ _ _ _ _ _ _=>rfl,fun _ _ _ _ _ _ _ _ _ _ _ _ _ _ _ _ _ _ _ _ _ _ _ _ _ _ _ _ _ _ _ _ _ _ _ _ _ _ _ _=>rfl,fun _ _ _ _ _ _ _ _ _ _ _ _ _ _ _ _ _ _ _ _ _ _ _ _ _ _ _ _ _ _ _ _ _ _ _ _ _ _ _ _ _=>rfl,fun _ _ _ _ _ _ _ _ _ _ _ _ _ _ _ _ _ _ _ _ _ _ _ _ _ _ _ _ _ _ _ _ _ _ _ _ _ _ _ _ _ _=>rfl⟩
def Es:(t:Ty)→List AV→Option t.den
 | .unit,[]=>some ()
 | .cons a b,x::l=>match dat? a x,Es b l with | some x,some y=>some (x,y) | _,_=>none
 | _,_=>none
def XX:(t:Ty)→t.den→List ((t:Ty)×t.den)
 | .cons a b,x=>⟨a,x.1⟩::XX b x.2
 | _,_=>[]
abbrev nK (t:Ty) (x:t.den):List AV:=(XX t x).map fun d => .val d.1 d.2
theorem xG : ∀ {t:Ty} {args:List AV} {x:t.den},Es t args=some x→zm args (XX t x)
 | .unit,[],_,_=>trivial
 | .cons a b,u::l,x,h=>by
  simp only [Es] at h
  split at h
  ·rename_i y z hy hz
   simp only [Option.some.injEq] at h
   subst h
   exact ⟨hy,xG hz⟩
  ·cases h
 | .int _,_,_,h | .bool,_,_,h | .str,_,_,h | .slice _,_,_,h | .tree,_,_,h | .unit,_::_,_,h | .cons _ _,[],_,h=>by simp [Es] at h
theorem On : ∀ {t:Ty} {args:List AV} {x:t.den},args.all AV.isVal=true→Es t args=some x→args=nK t x
 | .unit,[],_,_,_=>rfl
 | .cons a b,u::l,x,ha,h=>by
  simp only [Es] at h
  simp only [List.all_cons,Bool.and_eq_true] at ha
  split at h
  ·rename_i y z hy hz
   simp only [Option.some.injEq] at h
   subst h
   have h1:=On ha.2 hz
   have h2:u = .val a y:=by
    cases u with
    | val t x =>
     simp only [dat?,one?] at hy
     obtain ⟨e,e2⟩:=cast?_some hy
     subst e
     rw [e2]
    | _=>simp [AV.isVal] at ha
   rw [h2,h1]
   rfl
  ·cases h
 | .int _,_,_,_,h | .bool,_,_,_,h | .str,_,_,_,h | .slice _,_,_,_,h | .tree,_,_,_,h | .unit,_::_,_,_,h | .cons _ _,[],_,_,h=>by simp [Es] at h
def j4 (fn:Func) (S:Par):Fi:=⟨S,fn.ntmps,fn.results.toList,fn.body.getD .skip⟩
def fA (fn:Func):Bool:=fn.body.isSome && !(fn.name == "runtime.NumGoroutine")
theorem dh {P:Program} {f:FuncId} {fn:Func} {S:Par} (h:P.funcs[f]? = some fn) (hb:fA fn=true) (ht:TabOk P S.tab) (hs:SpecsOk P S.T):FiOk P f (j4 fn S):=by
 simp only [fA,Bool.and_eq_true,Bool.not_eq_true'] at hb
 refine ⟨⟨fn,h, ?_,rfl,rfl,hb.2⟩,ht,hs⟩
 cases hc:fn.body with
 | none=>rw [hc] at hb; simp at hb
 | some c=>simp [j4,hc]
def agO (P:Program):List (Nat×Fi)→Prop
 | []=>True
 | (f,x)::r=>FiOk P f x∧agO P r
theorem lk {P:Program} : ∀ {l:List (Nat×Fi)},agO P l → ∀ f x,ao l f=some x→FiOk P f x
 | [],_,_,_,h=>by cases h
 | (g,y)::r,hl,f,x,h=>by
  simp only [ao] at h
  split at h
  ·rename_i he
   have he:=Nat.eq_of_beq_eq_true he
   simp only [Option.some.injEq] at h
   subst he h
   exact hl.1
  ·exact lk hl.2 f x h
section
variable {P:Program} {f:FuncId} {R:Type}
def evE (a:Ty) (o:R→AV) (z:R) (g:a.den→Option R):Ent:=fun args=>match Es a args with
 | some y=>some ((g y).isSome,o ((g y).getD z))
 | none=>none
theorem ajs (hm:P.follows .mixedOrders=true) {fi:FuncId→Option Fi} {hs:Hs} (hfi : ∀ f x,fi f=some x→FiOk P f x) (hhs:qi P hs) {d:Nat} {x:Fi} (hx:FiOk P f x) {a:Ty} {tys:List Ty} {o:R→AV} {z:R} {g:a.den→Option R}
  (h : ∀ y,dX fi hs d x tys FU (nK a y)=Option.map o (g y)):ar P f (evE a o z g):=fun args res he=>by
 unfold evE at he
 split at he
 ·rename_i y hy
  simp only [Option.some.injEq,Prod.mk.injEq] at he
  obtain ⟨h1,rfl⟩:=he
  exact ou (xG hy) (aO hm hfi hhs hx ((h y).trans (ry h1)))
 ·cases he
theorem agH (hm:P.follows .mixedOrders=true) {fi:FuncId→Option Fi} {hs:Hs} (hfi : ∀ f x,fi f=some x→FiOk P f x) (hhs:qi P hs) {d:Nat} {fn:Func} (h1:P.funcs[f]? = some fn) {S:Par} (h3:TabOk P S.tab) (h4:SpecsOk P S.T) {a:Ty} {tys:List Ty} {o:R→AV} {z:R} {g:a.den→Option R}
  (T:Nat→a.den→Option AV) (he : ∀ y,T FU y=Option.map o (g y)) (h2:fA fn=true:=by kernel_rfl) (hk : ∀ fuel y,dX fi hs d (j4 fn S) tys fuel (nK a y)=T fuel y:=by intro _ _; kernel_rfl):ar P f (evE a o z g) :=
 ajs hm hfi hhs (dh h1 h2 h3 h4) fun y=>(hk FU y).trans (he y)
theorem rz {a:Ty} {o:R→AV} {z:R} {g:a.den→Option R} (h : ∀ y,g y=none):ar P f (evE a o z g):=fun args res he=>by
 unfold evE at he
 split at he
 ·simp [h] at he
 ·cases he
def bxE (τ a:Ty) (o:R→τ.den×AV) (z:R) (g:τ.den→a.den→Option R):Bnt:=ach τ fun p args=>match Es a args with
 | some y=>some ((g p y).isSome,o ((g p y).getD z))
 | none=>none
theorem ajK (hm:P.follows .mixedOrders=true) {fi:FuncId→Option Fi} {hs:Hs} (hfi : ∀ f x,fi f=some x→FiOk P f x) (hhs:qi P hs) {d:Nat} {x:Fi} (hx:FiOk P f x) {τ a:Ty} {tys:List Ty} {o:R→τ.den×AV} {z:R} {g:τ.den→a.den→Option R}
  (h : ∀ p y,Yb fi hs d x τ tys FU p (nK a y)=Option.map (fun r => .pcons (.val τ (o r).1) (o r).2) (g p y)):gX P f (bxE τ a o z g) :=
 SH hm hfi hhs hx (d:=d) (tys:=tys) fun p args p' out ha he=>by
  split at he
  ·rename_i y hy
   simp only [Option.some.injEq,Prod.mk.injEq] at he
   obtain ⟨h1,h2⟩:=he
   refine ⟨FU, ?_⟩
   rw [On ha hy,h p y,ry (d:=z) h1,h2]
  ·cases he
theorem He (hm:P.follows .mixedOrders=true) {fi:FuncId→Option Fi} {hs:Hs} (hfi : ∀ f x,fi f=some x→FiOk P f x) (hhs:qi P hs) {d:Nat} {fn:Func} (h1:P.funcs[f]? = some fn) {S:Par} (h3:TabOk P S.tab) (h4:SpecsOk P S.T) {τ a:Ty} {tys:List Ty} {o:R→τ.den×AV} {z:R} {g:τ.den→a.den→Option R}
  (T:Nat→τ.den→a.den→Option AV) (he : ∀ p y,T FU p y=Option.map (fun r => .pcons (.val τ (o r).1) (o r).2) (g p y)) (h2:fA fn=true:=by kernel_rfl) (hk : ∀ fuel p y,Yb fi hs d (j4 fn S) τ tys fuel p (nK a y)=T fuel p y:=by intro _ _ _; kernel_rfl):gX P f (bxE τ a o z g) :=
 ajK hm hfi hhs (dh h1 h2 h3 h4) fun p y=>(hk FU p y).trans (he p y)
theorem EF {τ a:Ty} {o:R→τ.den×AV} {z:R} {g:τ.den→a.den→Option R} (h : ∀ p y,g p y=none):gX P f (bxE τ a o z g) :=
 SG fun p args b p' out he=>by
  split at he
  ·simp only [Option.some.injEq,Prod.mk.injEq,h] at he
   exact he.1.symm
  ·cases he
def rwE (τ a:Ty) (e:TypeId) (g:List τ.den→a.den→Option (List τ.den)):Rw:=⟨τ,e,fun l aL=>match Es a aL with
 | some y=>some ((g l y).isSome,(g l y).getD [])
 | none=>none⟩
theorem agY (hm:P.follows .mixedOrders=true) {fi:FuncId→Option Fi} {hs:Hs} (hfi : ∀ f x,fi f=some x→FiOk P f x) (hhs:qi P hs) {d:Nat} {x:Fi} (hx:FiOk P f x) {τ a:Ty} {e:TypeId} {g:List τ.den→a.den→Option (List τ.den)}
  (h : ∀ l y,X9 fi hs d x τ e FU l (nK a y)=Option.map (fun r => .val (.slice τ) r) (g l y)):zj P f (rwE τ a e g) :=
 Vi hm hfi hhs hx (d:=d) fun l aL l' he=>by
  split at he
  ·rename_i y hy
   simp only [Option.some.injEq,Prod.mk.injEq] at he
   obtain ⟨h1,h2⟩:=he
   exact ⟨XX a y,xG hy,FU,by rw [← h2]; exact (h l y).trans (ry h1)⟩
  ·cases he
theorem ajZ (hm:P.follows .mixedOrders=true) {fi:FuncId→Option Fi} {hs:Hs} (hfi : ∀ f x,fi f=some x→FiOk P f x) (hhs:qi P hs) {d:Nat} {fn:Func} (h1:P.funcs[f]? = some fn) {S:Par} (h3:TabOk P S.tab) (h4:SpecsOk P S.T) {τ a:Ty} {e:TypeId} {g:List τ.den→a.den→Option (List τ.den)}
  (T:Nat→List τ.den→a.den→Option AV) (he : ∀ l y,T FU l y=Option.map (fun r => .val (.slice τ) r) (g l y)) (h2:fA fn=true:=by kernel_rfl) (hk : ∀ fuel l y,X9 fi hs d (j4 fn S) τ e fuel l (nK a y)=T fuel l y:=by intro _ _ _; kernel_rfl):zj P f (rwE τ a e g) :=
 agY hm hfi hhs (dh h1 h2 h3 h4) fun l y=>(hk FU l y).trans (he l y)
theorem Co {τ a:Ty} {e:TypeId} {g:List τ.den→a.den→Option (List τ.den)} (h : ∀ l y,g l y=none):zj P f (rwE τ a e g) :=
 ac9 fun l aL b l' he=>by
  split at he
  ·simp only [Option.some.injEq,Prod.mk.injEq,h] at he
   exact he.1.symm
  ·cases he
def nwE (τ a:Ty) (e:TypeId) (g:a.den→Option (List τ.den)):Nw:=⟨τ,e,fun args=>match Es a args with
 | some y=>some ((g y).isSome,(g y).getD [])
 | none=>none⟩
theorem ahl (hm:P.follows .mixedOrders=true) {fi:FuncId→Option Fi} {hs:Hs} (hfi : ∀ f x,fi f=some x→FiOk P f x) (hhs:qi P hs) {d:Nat} {x:Fi} (hx:FiOk P f x) {τ a:Ty} {e:TypeId} {g:a.den→Option (List τ.den)}
  (h : ∀ y,Ya fi hs d x τ e FU (nK a y)=Option.map (fun r => .val (.slice τ) r) (g y)):SR P f (nwE τ a e g) :=
 Vy hm hfi hhs hx (d:=d) fun args l' he=>by
  split at he
  ·rename_i y hy
   simp only [Option.some.injEq,Prod.mk.injEq] at he
   obtain ⟨h1,h2⟩:=he
   exact ⟨XX a y,xG hy,FU,by rw [← h2]; exact (h y).trans (ry h1)⟩
  ·cases he
theorem aj5 (hm:P.follows .mixedOrders=true) {fi:FuncId→Option Fi} {hs:Hs} (hfi : ∀ f x,fi f=some x→FiOk P f x) (hhs:qi P hs) {d:Nat} {fn:Func} (h1:P.funcs[f]? = some fn) {S:Par} (h3:TabOk P S.tab) (h4:SpecsOk P S.T) {τ a:Ty} {e:TypeId} {g:a.den→Option (List τ.den)}
  (T:Nat→a.den→Option AV) (he : ∀ y,T FU y=Option.map (fun r => .val (.slice τ) r) (g y)) (h2:fA fn=true:=by kernel_rfl) (hk : ∀ fuel y,Ya fi hs d (j4 fn S) τ e fuel (nK a y)=T fuel y:=by intro _ _; kernel_rfl):SR P f (nwE τ a e g) :=
 ahl hm hfi hhs (dh h1 h2 h3 h4) fun y=>(hk FU y).trans (he y)
theorem ado (hm:P.follows .mixedOrders=true) {fi:FuncId→Option Fi} {hs:Hs} (hfi : ∀ f x,fi f=some x→FiOk P f x) (hhs:qi P hs) {d:Nat} {fn:Func} (h1:P.funcs[f]? = some fn) {S:Par} (h3:TabOk P S.tab) (h4:SpecsOk P S.T) {τ a sc:Ty} {tys:List Ty} {g:τ.den→a.den→Option sc.den}
  (T:Nat→τ.den→a.den→Option AV) (he : ∀ p y,T FU p y=Option.map (fun r => .val sc r) (g p y)) (h2:fA fn=true:=by kernel_rfl) (hk : ∀ fuel p y,dX fi hs d (j4 fn S) tys fuel (.ref τ p::nK a y)=T fuel p y:=by intro _ _ _; kernel_rfl) (p:τ.den) (y:a.den) (hg:(g p y).isSome=true):qh P f (.ref τ p::nK a y) (.val sc ((g p y).getD (zero sc))) :=
 nn hm hfi hhs (dh h1 h2 h3 h4) (((hk FU p y).trans (he p y)).trans (ry hg))
end
end Go.Proofs.YtboikinjlmjgjaaGreat.Abs
