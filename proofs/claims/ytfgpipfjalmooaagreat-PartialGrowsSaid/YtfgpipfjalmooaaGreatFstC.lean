/- Closed runs. -/
import Derived.Test.YtfgpipfjalmooaaGreatCloI
set_option linter.all false
noncomputable section
namespace Go.Proofs.YtfgpipfjalmooaaGreat
namespace Clo
open Go Go.RowKit
abbrev Kx:=Ex→Env→DM→Pos→RX
abbrev Ko:=Env→DM→Pos→RX
abbrev Clo:=Callk→Nat→HP→Env→DM→Pos→Kx→RX
abbrev OpC:=Callk→HP→Env→DM→Pos→Ko→RX
abbrev Gt:=Env→TV
abbrev St':=TV→Env→Env
inductive BG|mk (g:Gt)
inductive BS|mk (s:St')
inductive BL|mk (g:Env→List TV)
inductive BE|mk (f:List TV→Pos→Q)
inductive BO|mk (f:OpC)
inductive BC|mk (f:Clo)
abbrev ahr:=Callk→HP→List Pos→Env→DM→Pos→Pos→(List Inf→Env→DM→Pos→RX)→RX
abbrev DOp:=Callk→HP→List Pos→Env→DM→Pos→Pos→(Inf→Env→DM→Pos→Pos→RX)→RX
inductive BD|mk (f:ahr)
inductive BD1|mk (f:DOp)
def lf (t:Env):Env:=PM.rec (motive:=λ_=>Env) .leaf (λl _ _ _ _=>l) t
def rt (t:Env):Env:=PM.rec (motive:=λ_=>Env) .leaf (λ_ _ r _ _=>r) t
def vl (t:Env):TV:=PM.rec (motive:=λ_=>TV) .unk (λ_ a _ _ _=>a) t
def gB (p:Pos):BG:=Pos.rec (motive:=λ_=>BG) (.mk vl) (λ_ f=>BG.rec (motive:=λ_=>BG) (λg=>.mk λt=>g (lf t)) f) (λ_ f=>BG.rec (motive:=λ_=>BG) (λg=>.mk λt=>g (rt t)) f) p
def sB (p:Pos):BS:=Pos.rec (motive:=λ_=>BS) (.mk λx t=>PM.rec (motive:=λ_=>Env) (.node .leaf x .leaf) (λl _ r _ _=>.node l x r) t)
 (λ_ f=>BS.rec (motive:=λ_=>BS) (λs=>.mk λx t=>PM.rec (motive:=λ_=>Env) (.node (s x .leaf) .unk .leaf) (λl a r _ _=>.node (s x l) a r) t) f)
 (λ_ f=>BS.rec (motive:=λ_=>BS) (λs=>.mk λx t=>PM.rec (motive:=λ_=>Env) (.node .leaf .unk (s x .leaf)) (λl a r _ _=>.node l a (s x r)) t) f) p
def vB (s:Src):BG:=Src.rec (motive:=λ_=>BG) (λp=>gB p) (λv=>.mk λ_=>v) s
def dB (d:Option Pos):BS:=Option.rec (motive:=λ_=>BS) (.mk (λ_ e=>e)) (λp=>sB p) d
def vsB (l:List Src):BL:=List.rec (motive:=λ_=>BL) (.mk (λ_=>[])) (λs _ f=>BG.rec (motive:=λ_=>BL) (λg=>BL.rec (motive:=λ_=>BL) (λh=>.mk λe=>g e::h e) f) (vB s)) l
def dlf (t:DM):DM:=PM.rec (motive:=λ_=>DM) .leaf (λl _ _ _ _=>l) t
def drt (t:DM):DM:=PM.rec (motive:=λ_=>DM) .leaf (λ_ _ r _ _=>r) t
def dvl (t:DM):Option EO:=PM.rec (motive:=λ_=>Option EO) none (λ_ a _ _ _=>a) t
def dG (k:Pos):DM→Option EO:=Pos.rec (motive:=λ_=>DM→Option EO) dvl (λ_ f t=>f (dlf t)) (λ_ f t=>f (drt t)) k
def dSK (k:Pos)(o:EO):DM→(DM→RX)→RX:=Pos.rec (motive:=λ_=>DM→(DM→RX)→RX) (λt K=>PM.rec (motive:=λ_=>RX) (K (.node .leaf (some o) .leaf)) (λl _ r _ _=>K (.node l (some o) r)) t)
 (λ_ f t K=>PM.rec (motive:=λ_=>RX) (f .leaf λl=>K (.node l none .leaf)) (λl a r _ _=>f l λl=>K (.node l a r)) t)
 (λ_ f t K=>PM.rec (motive:=λ_=>RX) (f .leaf λr=>K (.node .leaf none r)) (λl a r _ _=>f r λr=>K (.node l a r)) t) k
def sPK (p:Pos):(Pos→RX)→RX:=Pos.rec (motive:=λ_=>(Pos→RX)→RX) (λK=>K (.o .e)) (λp _ K=>K (.i p)) (λ_ f K=>f λq=>K (.o q)) p
def pN (p:Pos):Nat:=Pos.rec (motive:=λ_=>Nat) 0 (λ_ f=>Nat.add (Nat.mul 2 f) 1) (λ_ f=>Nat.add (Nat.mul 2 f) 2) p
def sP (p:Pos):Pos:=Pos.rec (motive:=λ_=>Pos) (.o .e) (λp _=>.i p) (λ_ f=>.o f) p
def hG (b:HP):Pos→EO:=HP.rec (motive:=λ_=>Pos→EO) (λ_=>.none) (λ_ d f k=>Option.rec (motive:=λ_=>EO) (f k) (λo=>o) (dG k d)) (λ_ n f k=>Bool.rec (motive:=λ_=>EO) .none (f k) (Nat.blt (pN k) (pN n))) b
def bX (r:RX)(k:Kx):RX:=RX.rec (motive:=λ_=>RX) .no k r
def bC (t:Bool)(a b:RX):RX:=Bool.rec (motive:=λ_=>RX) b a t
def frK (b:HP)(d:DM)(n:Pos)(k:RX):RX:=EO.rec (motive:=λ_=>RX) k (λ_ _ _ _ _ _=>.no) (λ_ _=>.no) (λ_ _ _ _=>.no) (λ_ _ _ _=>.no) (λ_ _=>.no) (λ_ _ _=>.no) (λ_ _=>.no) .no .no .no .no (hG (.ov b d) n)
def roK (o:EO)(k:Nat→PT Ch→Nat→Nat→RX):RX:=EO.rec (motive:=λ_=>RX) .no (λ_ s g len f _=>k s g len f) (λ_ _=>.no) (λ_ _ _ _=>.no) (λ_ _ _ _=>.no) (λ_ _=>.no) (λ_ _ _=>.no) (λ_ _=>.no) .no .no .no .no o
def asP (v:TV)(k:PV→RX):RX:=TV.rec (motive:=λ_=>RX) .no k (λ_=>.no) v
def asC (v:TV)(k:CV→RX):RX:=TV.rec (motive:=λ_=>RX) .no (λp=>PV.rec (motive:=λ_=>RX) k (λ_=>.no) p) (λ_=>.no) v
def asB (v:TV)(k:Bool→RX):RX:=asC v λc=>CV.rec (motive:=λ_=>RX) k (λ_ _=>.no) (λ_=>.no) .no (λ_ _ _=>.no) (λ_=>.no) .no (λ_ _ _ _ _=>.no) (λ_=>.no) .no (λ_=>.no) .no (λ_=>.no) (λ_=>.no) .no (λ_=>.no) (λ_=>.no) c
def asI (v:TV)(k:IntKind→Int→RX)(z:RX):RX:=asC v λc=>CV.rec (motive:=λ_=>RX) (λ_=>z) k (λ_=>z) z (λ_ _ _=>z) (λ_=>z) z (λ_ _ _ _ _=>z) (λ_=>z) z (λ_=>z) z (λ_=>z) (λ_=>z) z (λ_=>z) (λ_=>z) c
def asS (v:TV)(k:List Nat→RX):RX:=asC v λc=>CV.rec (motive:=λ_=>RX) (λ_=>.no) (λ_ _=>.no) k .no (λ_ _ _=>.no) (λ_=>.no) .no (λ_ _ _ _ _=>.no) (λ_=>.no) .no (λ_=>.no) .no (λ_=>.no) (λ_=>.no) .no (λ_=>.no) (λ_=>.no) c
def asR (v:TV)(k:Pos→Nat→Nat→RX):RX:=asC v λc=>CV.rec (motive:=λ_=>RX) (λ_=>.no) (λ_ _=>.no) (λ_=>.no) .no k (λ_=>.no) .no (λ_ _ _ _ _=>.no) (λ_=>.no) .no (λ_=>.no) .no (λ_=>.no) (λ_=>.no) .no (λ_=>.no) (λ_=>.no) c
def asL (v:TV)(k:Pos→Nat→Nat→Nat→RX):RX:=asC v λc=>CV.rec (motive:=λ_=>RX) (λ_=>.no) (λ_ _=>.no) (λ_=>.no) .no (λ_ _ _=>.no) (λ_=>.no) .no (λp g o n _=>k p g o n) (λ_=>.no) .no (λ_=>.no) .no (λ_=>.no) (λ_=>.no) .no (λ_=>.no) (λ_=>.no) c
def nI (n:Int)(k:Int→RX):RX:=Int.rec (motive:=λ_=>RX) (λm=>Nat.rec (motive:=λ_=>RX) (k (.ofNat 0)) (λm _=>k (.ofNat (Nat.succ m))) m) (λm=>Nat.rec (motive:=λ_=>RX) (k (.negSucc 0)) (λm _=>k (.negSucc (Nat.succ m))) m) n
def nN (n:Nat)(k:Nat→RX):RX:=Nat.rec (motive:=λ_=>RX) (k 0) (λm _=>k (Nat.succ m)) n
def i2 (a b:Int)(f:Nat→Nat→RX)(z:RX):RX:=Int.rec (motive:=λ_=>RX) (λa=>Int.rec (motive:=λ_=>RX) (λb=>f a b) (λ_=>z) b) (λ_=>z) a
def oI (k:IntKind)(n:Int):TV :=.pv (.one (.int k n))
def oB (b:Bool):TV :=.pv (.one (.bl b))
def sWK (wr:Option (Pos×EO))(d:DM)(k:DM→RX):RX:=Option.rec (motive:=λ_=>RX) (k d) (λp=>dSK p.1 p.2 d k) wr
def qK (b:HP)(d:DM)(q:Q)(k:TV→Option (Pos×EO)→RX):RX:=Q.rec (motive:=λ_=>RX) .no k (λp _ f=>f (hG (.ov b d) p)) q
def b0 (o:FO)(f:Bool):OpC:=λ_ b e d n k=>bif bz f (HP.ov b d).get n then(match stepF e (HP.ov b d).get n o with
 |some (out,wr)=>k (aX e o.dst out) (setW d wr) (cN f n)
 |none=>.no)else .no
def T4 (f:List TV→Pos→Q)(j:Env→List TV)(g:St'):OpC:=λ_ b e d n k=>qK b d (f (j e) n) λout wr=>sWK wr d λd=>k (g out e) d n
def T3 (f:List TV→Pos→Q)(j:Env→List TV)(g:St'):OpC:=λ_ b e d n k=>frK b d n (qK b d (f (j e) n) (λout wr=>sWK wr d λd=>sPK n λn=>k (g out e) d n))
def ahZ (x:Gt)(f:St'):OpC:=λ_ _ e d n k=>k (f (x e) e) d n
def aa1 (c x y:Gt)(f:St'):OpC:=λ_ _ e d n k=>asB (c e) λt=>bC t (k (f (x e) e) d n) (k (f (y e) e) d n)
def ag7 (x:Gt)(f:St'):OpC:=λ_ _ e d n k=>asB (x e) λt=>bC t (k (f (oB false) e) d n) (k (f (oB true) e) d n)
def Pg (f:Int→Int→Bool)(fn:Nat→Nat→Bool)(op:BinOp)(x y:Gt)(g:St'):OpC:=λ_ b e d n k=>
 asI (x e) (λp a=>asI (y e) (λl j=>bC (kq p l) (i2 a j (λa j=>bC (fn a j) (k (g (oB true) e) d n) (k (g (oB false) e) d n)) (bC (f a j) (k (g (oB true) e) d n) (k (g (oB false) e) d n))) .no) .no)
  (qK b d (rX op [x e,y e] n) λout wr=>sWK wr d λd=>k (g out e) d n)
def Rn (k:IntKind):Bool:=IntKind.rec (motive:=λ_=>Bool) false false false true false false false false k
def ahh (x y:Gt)(f:St'):OpC:=λ_ b e d n k=>
 asI (x e) (λg a=>asI (y e) (λp j=>bC (kq g p) (i2 a j (λC l=>bC (Rn g) (nN (Nat.add C l) λs=>bC (Nat.blt s 9223372036854775808) (k (f (oI g (.ofNat s)) e) d n) (nI (g.wrap (a+j)) λr=>k (f (oI g r) e) d n)) (nI (g.wrap (a+j)) λr=>k (f (oI g r) e) d n)) (nI (g.wrap (a+j)) λr=>k (f (oI g r) e) d n)) .no) .no)
  (qK b d (rX .add [x e,y e] n) λout wr=>sWK wr d λd=>k (f out e) d n)
def ag6 (x y:Gt)(f:St'):OpC:=λ_ b e d n k=>
 asI (x e) (λg a=>asI (y e) (λC l=>bC (kq g C) (i2 a l (λp j=>bC (Nat.ble j p) (bC (Rn g) (bC (Nat.blt p 9223372036854775808) (nN (Nat.sub p j) λs=>k (f (oI g (.ofNat s)) e) d n) (nI (g.wrap (a-l)) λr=>k (f (oI g r) e) d n)) (nI (g.wrap (a-l)) λr=>k (f (oI g r) e) d n)) (nI (g.wrap (a-l)) λr=>k (f (oI g r) e) d n)) (nI (g.wrap (a-l)) λr=>k (f (oI g r) e) d n)) .no) .no)
  (qK b d (rX .sub [x e,y e] n) λout wr=>sWK wr d λd=>k (f out e) d n)
def ada (l:List Nat):Nat→(Nat→RX)→RX:=List.rec (motive:=λ_=>Nat→(Nat→RX)→RX) (λ_ _=>.no) (λa _ f i k=>Nat.rec (motive:=λ_=>RX) (k a) (λi _=>f i k) i) l
def abb (x y:Gt)(f:St'):OpC:=λ_ _ e d n k=>asS (x e) λs=>asI (y e) (λ_ i=>Int.rec (motive:=λ_=>RX) (λi=>ada s i λc=>nN c λc=>k (f (oI .u8 (.ofNat c)) e) d n) (λ_=>.no) i) .no
def lnN (l:List Nat):Nat:=List.rec (motive:=λ_=>Nat) 0 (λ_ _ f=>Nat.add f 1) l
def lnC (l:List CV):Nat:=List.rec (motive:=λ_=>Nat) 0 (λ_ _ f=>Nat.add f 1) l
def aa5 (x:Gt)(f:St'):OpC:=λ_ _ e d n k=>asS (x e) λs=>nN (lnN s) λr=>k (f (oI .i64 (.ofNat r)) e) d n
def abh (c:Nat)(x:Gt)(f:St'):OpC:=λ_ _ e d n k=>asR (x e) λp g o=>nN (Nat.add o c) λo=>k (f (.pv (.one (.ptr p g o))) e) d n
def abd (s:Nat)(x y:Gt)(f:St'):OpC:=λ_ _ e d n k=>asL (x e) λp g o len=>asI (y e) (λ_ i=>Int.rec (motive:=λ_=>RX) (λi=>bC (Nat.blt i len) (nN (Nat.add o (Nat.mul i s)) (λo=>k (f (.pv (.one (.ptr p g o))) e) d n)) .no) (λ_=>.no) i) .no
def ptG (t:PT Ch):Nat→Ch:=PT.rec (motive:=λ_=>Nat→Ch) (λ_=>dch) (λ_ a _ g f i=>Nat.rec (motive:=λ_=>Ch) a (λi _=>Bool.rec (motive:=λ_=>Ch) (f (Nat.div i 2)) (g (Nat.div i 2)) (Nat.beq (Nat.mod i 2) 0)) i) t
def drC (l:List CV):Nat→List CV:=List.rec (motive:=λ_=>Nat→List CV) (λ_=>[]) (λa l f n=>Nat.rec (motive:=λ_=>List CV) (a::l) (λn _=>f n) n) l
def tkC (l:List CV):Nat→List CV:=List.rec (motive:=λ_=>Nat→List CV) (λ_=>[]) (λa _ f n=>Nat.rec (motive:=λ_=>List CV) [] (λn _=>a::f n) n) l
def hdC (l:List CV)(k:CV→RX):RX:=List.rec (motive:=λ_=>RX) .no (λc _ _=>k c) l
def chK (c:Ch)(k:List CV→Nat→RX):RX:=Ch.rec (motive:=λ_=>RX) k c
def rdK (b:HP)(d:DM)(p:Pos)(g f m:Nat)(k:List CV→RX):RX:=roK (hG (.ov b d) p) λs r len j=>
 bC (Nat.ble g j) (bC (Nat.blt (Nat.div f s) len) (chK (ptG r (Nat.div f s)) λC l=>bC (Nat.ble l g) (bC (Nat.ble (Nat.add (Nat.mod f s) m) s) (k (drC C (Nat.mod f s))) .no) .no) .no) .no
def aha (x:Gt)(f:St'):OpC:=λ_ b e d n k=>asR (x e) λp g o=>rdK b d p g o 1 λl=>hdC l λc=>k (f (.pv (.one c)) e) d n
def ag9 (s:Nat)(x:Gt)(f:St'):OpC:=λ_ b e d n k=>asR (x e) λp g o=>rdK b d p g o s λl=>k (f (.pv (.agg (tkC l s))) e) d n
def clP (p:PV):List CV:=PV.rec (motive:=λ_=>List CV) (λc=>[c]) (λl=>l) p
def apC (l m:List CV):List CV:=List.rec (motive:=λ_=>List CV) m (λa _ f=>a::f) l
def spC (g:List CV)(f:Nat)(new:List CV):List CV:=apC (tkC g f) (apC new (drC g (Nat.add f (lnC new))))
def pgL (t:PT Ch):PT Ch:=PT.rec (motive:=λ_=>PT Ch) .leaf (λl _ _ _ _=>l) t
def pgR (t:PT Ch):PT Ch:=PT.rec (motive:=λ_=>PT Ch) .leaf (λ_ _ r _ _=>r) t
def pgV (t:PT Ch):Ch:=PT.rec (motive:=λ_=>Ch) dch (λ_ a _ _ _=>a) t
def ptS (f:Nat):PT Ch→Nat→Ch→PT Ch:=Nat.rec (motive:=λ_=>PT Ch→Nat→Ch→PT Ch) (λt _ _=>t) (λ_ g t i x=>Nat.rec (motive:=λ_=>PT Ch) (.node (pgL t) x (pgR t)) (λi _=>Bool.rec (motive:=λ_=>PT Ch) (.node (pgL t) (pgV t) (g (pgR t) (Nat.div i 2) x)) (.node (g (pgL t) (Nat.div i 2) x) (pgV t) (pgR t)) (Nat.beq (Nat.mod i 2) 0)) i) f
def fzK (fz:Fz)(k:RX):RX:=Fz.rec (motive:=λ_=>RX) k .no .no fz
def roW (o:EO)(k:TypeId→Nat→PT Ch→Nat→Nat→Fz→RX):RX:=EO.rec (motive:=λ_=>RX) .no k (λ_ _=>.no) (λ_ _ _ _=>.no) (λ_ _ _ _=>.no) (λ_ _=>.no) (λ_ _ _=>.no) (λ_ _=>.no) .no .no .no .no o
def R6 (m:Nat)(x y:Gt)(l:St'):OpC:=λ_ b e d n k=>asR (x e) λp g f=>asP (y e) λv=>bC (Nat.beq (lnC (clP v)) m) (roW (hG (.ov b d) p) λt s r len j fz=>
 bC (Nat.beq g j) (bC (Nat.blt (Nat.div f s) len) (bC (Nat.ble (Nat.add (Nat.mod f s) m) s) (fzK fz (chK (ptG r (Nat.div f s)) λC _=>dSK p (.row t s (ptS 32 r (Nat.div f s) ⟨spC C (Nat.mod f s) (clP v),j⟩) len j fz) d λd=>k (l .unk e) d n)) .no) .no) .no) .no
def R9 (t:TypeId)(g:List CV)(f:St'):OpC:=λ_ b e d n k=>frK b d n (dSK n (.row t g.length (.node .leaf ⟨g,0⟩ .leaf) 1 0 .no) d (λd=>sPK n λj=>k (f (.pv (.one (.ptr n 0 0))) e) d j))
def ahg (t:TypeId)(s:Nat)(x:Gt)(f:St'):OpC:=λ_ b e d n k=>frK b d n (asP (x e) (λp=>bC (Nat.beq (lnC (clP p)) s) (dSK n (.row t s (.node .leaf ⟨clP p,0⟩ .leaf) 1 0 .no) d (λd=>sPK n λg=>k (f (.pv (.one (.ptr n 0 0))) e) d g)) .no))
def aa7 (x:Gt)(f:St'):OpC:=λ_ _ e d n k=>asC (x e) λc=>CV.rec (motive:=λ_=>RX) (λ_=>.no) (λ_ _=>.no) (λ_=>.no) .no (λ_ _ _=>.no) (λ_=>.no) (k (f (oI .i64 (.ofNat 0)) e) d n) (λ_ _ _ m _=>nN m λm=>k (f (oI .i64 (.ofNat m)) e) d n) (λ_=>k (f (oI .i64 (.ofNat 0)) e) d n) .no (λ_=>.no) .no (λ_=>.no) (λ_=>.no) .no (λ_=>.no) (λ_=>.no) c
def ag8 (x:Gt)(j:St'):OpC:=λ_ _ e d n k=>asC (x e) λc=>CV.rec (motive:=λ_=>RX) (λ_=>.no) (λ_ _=>.no) (λ_=>.no) .no (λp g o=>k (j (.pv (.one (.ptr p g o))) e) d n) (λg=>k (j (.pv (.one (.glob g))) e) d n) .no (λ_ _ _ _ _=>.no) (λ_=>.no) .no (λ_=>.no) .no (λf=>k (j (.pv (.one (.fnc f))) e) d n) (λ_=>.no) .no (λi=>k (j (.pv (.one (.ifc i))) e) d n) (λ_=>.no) c
def tuK (v:TV)(k:List PV→RX):RX:=TV.rec (motive:=λ_=>RX) .no (λ_=>.no) k v
def ac9 (l:List PV):Nat→(PV→RX)→RX:=List.rec (motive:=λ_=>Nat→(PV→RX)→RX) (λ_ _=>.no) (λa _ f i k=>Nat.rec (motive:=λ_=>RX) (k a) (λi _=>f i k) i) l
def abk (i:Nat)(x:Gt)(f:St'):OpC:=λ_ _ e d n k=>tuK (x e) λl=>ac9 l i λp=>k (f (.pv p) e) d n
def RCx (r:RC)(k:TV→DM→Pos→RX):RX:=RC.rec (motive:=λ_=>RX) .no k r
def abm (ck:Callk)(b:HP)(f:List TV)(d:DM)(n:Pos)(k:TV→DM→Pos→RX):RX:=match cI (HP.ov b d).get f with
 |some (t,f)=>RCx (ck.call b t f d n) k
 |none=>.no
def abn (x:Gt)(r:Env→List TV)(g:St'):OpC:=λck b e d n k=>asC (x e) λc=>CV.rec (motive:=λ_=>RX) (λ_=>.no) (λ_ _=>.no) (λ_=>.no) .no (λ_ _ _=>.no) (λ_=>.no) .no (λ_ _ _ _ _=>.no) (λ_=>.no) .no (λ_=>.no) .no (λf=>RCx (ck.call b (.fn f) (r e) d n) λv d n=>k (g v e) d n) (λp=>abm ck b (.pv (.one (.clo p))::r e) d n λv d n=>k (g v e) d n) .no (λ_=>.no) (λ_=>.no) c
def cGd (g:Gt)(w:Bool)(l:Bool)(j:St')(f:OpC):OpC:=λck b e d n k=>TV.rec (motive:=λ_=>RX) .no (λq=>PV.rec (motive:=λ_=>RX) (λc=>CV.rec (motive:=λ_=>RX) (λt=>bC (Bool.rec (motive:=λ_=>Bool) (Bool.rec (motive:=λ_=>Bool) true false t) t w) (f ck b e d n k) (Bool.rec (motive:=λ_=>RX) (k (j (.tup []) e) d n) (frK b d n (sPK n (λn=>k (j (.tup []) e) d n))) l)) (λ_ _=>.no) (λ_=>.no) .no (λ_ _ _=>.no) (λ_=>.no) .no (λ_ _ _ _ _=>.no) (λ_=>.no) .no (λ_=>.no) .no (λ_=>.no) (λ_=>.no) .no (λ_=>.no) (λ_=>.no) c) (λ_=>.no) q) (λ_=>Bool.rec (motive:=λ_=>RX) (k (j (.tup []) e) d n) (frK b d n (sPK n (λn=>k (j (.tup []) e) d n))) l) (g e)
def m1 (f:Gt→St'→OpC)(x:Src)(g:Option Pos):BO:=BG.rec (motive:=λ_=>BO) (λx=>BS.rec (motive:=λ_=>BO) (λd=>.mk (f x d)) (dB g)) (vB x)
def m2 (f:Gt→Gt→St'→OpC)(x y:Src)(g:Option Pos):BO:=BG.rec (motive:=λ_=>BO) (λx=>BG.rec (motive:=λ_=>BO) (λy=>BS.rec (motive:=λ_=>BO) (λd=>.mk (f x y d)) (dB g)) (vB y)) (vB x)
def m3 (f:Gt→Gt→Gt→St'→OpC)(x y z:Src)(g:Option Pos):BO:=BG.rec (motive:=λ_=>BO) (λx=>BG.rec (motive:=λ_=>BO) (λy=>BG.rec (motive:=λ_=>BO) (λz=>BS.rec (motive:=λ_=>BO) (λd=>.mk (f x y z d)) (dB g)) (vB z)) (vB y)) (vB x)
def mL (f:(Env→List TV)→St'→OpC)(l:List Src)(g:Option Pos):BO:=BL.rec (motive:=λ_=>BO) (λx=>BS.rec (motive:=λ_=>BO) (λd=>.mk (f x d)) (dB g)) (vsB l)
def eB:K→BE
 |.mov=>.mk (RW)
 |.sy n=>.mk (eSy n)
 |.pick=>.mk (TM)
 |.alloc e f=>.mk (K8 e f)
 |.box e s=>.mk (aas e s)
 |.build f ps=>.mk (F0 f ps)
 |.lit e s len f p=>.mk (ad0 e s len f p)
 |.load s agg=>.mk (FZ s agg)
 |.store s=>.mk (AU s)
 |.nilchk=>.mk (zI)
 |.bin op=>.mk (rX op)
 |.eql neg q=>.mk (aar neg q)
 |.un op=>.mk (eUn op)
 |.cint k=>.mk (OV k)
 |.same=>.mk (ON)
 |.b2s=>.mk (ad3)
 |.s2b e=>.mk (ahU e)
 |.i2s=>.mk (aap)
 |.mki t=>.mk (adY t)
 |.mkf fn nf=>.mk (adZ fn nf)
 |.mkm=>.mk (adX)
 |.mks e s bytes f=>.mk (adW e s bytes f)
 |.subs g j=>.mk (OM g j)
 |.subl s g j mx=>.mk (TJ s g j mx)
 |.suba n s g j mx=>.mk (TK n s g j mx)
 |.fadr d=>.mk (OU d)
 |.fld l s agg=>.mk (aaq l s agg)
 |.idxl s=>.mk (IQ s)
 |.idxa n s=>.mk (OT n s)
 |.idxs=>.mk (IP)
 |.idxg n s agg=>.mk (OS n s agg)
 |.look q z ok=>.mk (OO q z ok)
 |.put q=>.mk (adU q)
 |.ment q z=>.mk (TP q z)
 |.mest=>.mk (TO)
 |.rngs=>.mk (afc)
 |.rngm=>.mk (TL)
 |.nexts=>.mk (aam)
 |.nextm=>.mk (aan)
 |.ext i=>.mk (Wy i)
 |.lens=>.mk (IM)
 |.lenl=>.mk (IN)
 |.lenm=>.mk (OQ)
 |.lena n=>.mk (OR n)
 |.capl=>.mk (OW)
 |.app e s bytes str=>.mk (ad4 e s bytes str)
 |.cpy s str=>.mk (ad2 s str)
 |.del q=>.mk (ahV q)
 |.mx r=>.mk (eMx r)
 |.ent=>.mk (ad1)
 |.p2u=>.mk (adV)
 |.u2p ok=>.mk (adT ok)
 |.usd=>.mk (aal)
 |.ust e ok=>.mk (adS e ok)
 |.mknz e=>.mk (TN e)
 |.ibs=>.mk (aao)
 |_=>.mk (λ_ _=>.fail)
def adL (k:K)(args:List Src)(g:Option Pos):BO:=BE.rec (motive:=λ_=>BO) (λf=>mL (T4 f) args g) (eB k)
def agB (k:K)(args:List Src)(g:Option Pos):BO:=BE.rec (motive:=λ_=>BO) (λf=>mL (T3 f) args g) (eB k)
def cK0 (k:K)(args:List Src)(f:Option Pos):BO:=match k,args with
 |.mov,[x]=>m1 ahZ x f
 |.pick,[c,x,y]=>m3 aa1 c x y f
 |.idxs,[x,y]=>m2 abb x y f
 |.lens,[x]=>m1 aa5 x f
 |.lenl,[x]=>m1 aa7 x f
 |.fadr c,[x]=>m1 (abh c) x f
 |.store s,[x,y]=>m2 (R6 s) x y f
 |.idxl s,[x,y]=>m2 (abd s) x y f
 |.load 1 false,[x]=>m1 aha x f
 |.load s true,[x]=>m1 (ag9 s) x f
 |.nilchk,[x]=>m1 ag8 x f
 |.ext i,[x]=>m1 (abk i) x f
 |.un .not,[x]=>m1 ag7 x f
 |.bin .eql,[x,y]=>m2 (Pg (λa b=>decide (a=b)) Nat.beq .eql) x y f
 |.bin .neq,[x,y]=>m2 (Pg (λa b=>!decide (a=b)) (λa b=>Bool.rec (motive:=λ_=>Bool) true false (Nat.beq a b)) .neq) x y f
 |.bin .lss,[x,y]=>m2 (Pg (λa b=>decide (a<b)) Nat.blt .lss) x y f
 |.bin .leq,[x,y]=>m2 (Pg (λa b=>decide (a≤b)) Nat.ble .leq) x y f
 |.bin .gtr,[x,y]=>m2 (Pg (λa b=>decide (a>b)) (λa b=>Nat.blt b a) .gtr) x y f
 |.bin .geq,[x,y]=>m2 (Pg (λa b=>decide (a≥b)) (λa b=>Nat.ble b a) .geq) x y f
 |.bin .add,[x,y]=>m2 ahh x y f
 |.bin .sub,[x,y]=>m2 ag6 x y f
 |k,args=>adL k args f
def cK1 (k:K)(args:List Src)(f:Option Pos):BO:=match k,args with
 |.alloc t zs,[]=>BS.rec (motive:=λ_=>BO) (λd=>.mk (R9 t zs d)) (dB f)
 |.box t s,[x]=>m1 (ahg t s) x f
 |k,args=>agB k args f
def cKa (k:K)(args:List Src)(f:Option Pos)(g:Bool):BO:=Bool.rec (motive:=λ_=>BO) (cK0 k args f) (cK1 k args f) g
def gdB (p:Pos)(w l:Bool)(j:Option Pos)(f:BO):BO:=BO.rec (motive:=λ_=>BO) (λf=>BG.rec (motive:=λ_=>BO) (λg=>BS.rec (motive:=λ_=>BO) (λd=>.mk (cGd g w l d f)) (dB j)) (gB p)) f
def cC1 (args:List Src)(f:Option Pos):BO:=match args with
 |[]=>.mk λ_ _ _ _ _ _=>.no
 |x::r=>BG.rec (motive:=λ_=>BO) (λx=>mL (abn x) r f) (vB x)
def ahB (o:OP):BO :=.mk λck b e d n k=>match aQ ck b [o] e d n with
 |.ok e d n=>k e d n
 |.no=>.no
def cO1 (o:OP):BO:=match o with
 |.op ⟨k,args,f,g⟩ al=>(match g with
  |none=>cKa k args f al
  |some (p,w)=>gdB p w al f (cKa k args f al))
 |.call args f g=>(match g with
  |none=>cC1 args f
  |some (p,w)=>gdB p w false f (cC1 args f))
 |o=>ahB o
def cOs:List OP→BO
 |[]=>.mk λ_ _ e d n k=>k e d n
 |o::r=>BO.rec (motive:=λ_=>BO) (λf=>BO.rec (motive:=λ_=>BO) (λg=>.mk λck b e d n k=>f ck b e d n λe d n=>g ck b e d n k) (cOs r)) (cO1 o)
def afG (f g:Clo):Clo:=λck j b e d n k=>f ck j b e d n λx e d n=>Ex.rec (motive:=λ_=>RX) (g ck j b e d n k) (λid=>k (.exit id) e d n) (k .ret e d n) x
def aaL (c:Gt)(f g:Clo):Clo:=λck j b e d n k=>asB (c e) λt=>bC t (f ck j b e d n k) (g ck j b e d n k)
def Sd (id:Nat)(f:Clo):Clo:=λck g b e d n k=>f ck g b e d n λx e d n=>Ex.rec (motive:=λ_=>RX) (k .normal e d n) (λi=>bC (Nat.beq i id) (k .normal e d n) (k (.exit i) e d n)) (k .ret e d n) x
def ae5 (f:Clo):Clo:=λck g b e d n k=>Nat.rec (motive:=λ_=>Env→DM→Pos→RX) (λ_ _ _=>.no) (λ_ j e d n=>f ck g b e d n λx e d n=>Ex.rec (motive:=λ_=>RX) (j e d n) (λid=>k (.exit id) e d n) (k .ret e d n) x) g e d n
def Na (f:OpC):Clo:=λck _ b e d n k=>f ck b e d n (k .normal)
def c2 (f:Clo→Clo→Clo)(x y:BC):BC:=BC.rec (motive:=λ_=>BC) (λx=>BC.rec (motive:=λ_=>BC) (λy=>.mk (f x y)) y) x
def c1 (f:Clo→Clo)(x:BC):BC:=BC.rec (motive:=λ_=>BC) (λx=>.mk (f x)) x
def KN:K→Bool
 |.mov=>true|.pick=>true|.build _ _=>true|.load _ _=>true|.nilchk=>true|.bin _=>true|.eql _ _=>true|.un _=>true|.cint _=>true|.same=>true|.i2s=>true
 |.subs _ _=>true|.fadr _=>true|.fld _ _ _=>true|.idxl _=>true|.idxa _ _=>true|.idxs=>true|.idxg _ _ _=>true|.look _ _ _=>true|.ext _=>true
 |.lens=>true|.lenl=>true|.lenm=>true|.lena _=>true|.capl=>true|.mx _=>true|.usd=>true|.ibs=>true
 |_=>false
def HZ:OP→Bool
 |.op o f=>match f with
  |true=>false
  |false=>KN o.k
 |_=>false
def Sk:List OP→Bool
 |[]=>true
 |o::l=>match HZ o with
  |true=>Sk l
  |false=>false
def Em:List OP→Nat→Bool
 |[],_=>false
 |o::_,0=>HZ o
 |_::l,i+1=>Em l i
def RK (f:List OP):List (Nat×Nat)→List (Nat×Nat)
 |[]=>[]
 |p::r=>match Em f p.1,Em f p.2 with
  |true,true=>RK f r
  |_,_=>p::RK f r
def ZD (o:FO)(f:Bool)(b:HP)(e:Env)(d:DM)(r:Pos):Inf:=match stepF e (HP.ov b (eF f d r)).get r o with
 |some (out,wr)=>.op (eY wr) (trF e (HP.ov b (eF f d r)).get r o) (oE f r wr) (qF e r o) out
 |none=>.op none [] true .fail .unk
def aaF (o:FO)(f:OpC):DOp:=λck b _ e d r n k=>f ck b e d r λj l g=>k (ZD o false b e d r) j l g n
def okK (b:HP)(d:DM)(wr:Option (Pos×EO))(k:RX):RX:=Option.rec (motive:=λ_=>RX) k (λp=>bC (BU (hG (.ov b d) p.1)) .no k) wr
def clK (f:Bool)(d:DM)(r:Pos)(k:DM→RX):RX:=Bool.rec (motive:=λ_=>RX) (k d) (dSK r .none d k) f
def sPi (f:Bool)(r:Pos)(k:Pos→RX):RX:=Bool.rec (motive:=λ_=>RX) (k r) (sPK r k) f
def agV (o:FO)(j:Bool)(f:List TV→Pos→Q)(p:Env→List TV)(g:St'):DOp:=λ_ b _ e d r n k=>clK j d r λl=>qK b l (f (p e) r) λout wr=>okK b l wr (sWK wr d (λJ=>sPi j r λC=>k (ZD o j b e d r) (g out e) J C n))
def aaD (o:FO)(f:Bool):DOp:=λ_ b _ e d r n k=>match stepF e (HP.ov b (eF f d r)).get r o with
 |some (out,wr)=>bif okW (HP.ov b (eF f d r)).get wr then k (ZD o f b e d r) (aX e o.dst out) (setW d wr) (cN f r) n else .no
 |none=>.no
def Lc (ck:Callk)(b:HP)(j:List Pos)(t:Tgt)(g:List TV)(d:DM)(n:Pos)(k:Inf→TV→DM→Pos→RX):RX:=RCx (ck.call (.ov b d) t g .leaf n) λout f l=>bC (rR f j) (k (.call (.ov b d) f) out (lT f d) l) .no
def aaI (ck:Callk)(b:HP)(g:List Pos)(f:List TV)(d:DM)(n:Pos)(k:Inf→TV→DM→Pos→RX):RX:=match cI (HP.ov b d).get f with
 |some (t,f)=>Lc ck b g t f d n k
 |none=>.no
def afe (x:Gt)(v:Env→List TV)(g:St'):DOp:=λck b j e d r n k=>asC (x e) λc=>CV.rec (motive:=λ_=>RX) (λ_=>.no) (λ_ _=>.no) (λ_=>.no) .no (λ_ _ _=>.no) (λ_=>.no) .no (λ_ _ _ _ _=>.no) (λ_=>.no) .no (λ_=>.no) .no (λf=>Lc ck b j (.fn f) (v e) d n λi out d n=>k i (g out e) d r n) (λp=>aaI ck b j (.pv (.one (.clo p))::v e) d n λi out d n=>k i (g out e) d r n) .no (λ_=>.no) (λ_=>.no) c
def dGd (g:Gt)(w:Bool)(j:St')(f:DOp):DOp:=λck b l e d r n k=>TV.rec (motive:=λ_=>RX) .no (λq=>PV.rec (motive:=λ_=>RX) (λc=>CV.rec (motive:=λ_=>RX) (λt=>bC (Bool.rec (motive:=λ_=>Bool) (Bool.rec (motive:=λ_=>Bool) true false t) t w) (f ck b l e d r n k) (k (.op none [] true .fail .unk) (j (.tup []) e) d r n)) (λ_ _=>.no) (λ_=>.no) .no (λ_ _ _=>.no) (λ_=>.no) .no (λ_ _ _ _ _=>.no) (λ_=>.no) .no (λ_=>.no) .no (λ_=>.no) (λ_=>.no) .no (λ_=>.no) (λ_=>.no) c) (λ_=>.no) q) (λ_=>k (.op none [] true .fail .unk) (j (.tup []) e) d r n) (g e)
def dC1 (args:List Src)(f:Option Pos):BD1:=match args with
 |[]=>.mk λ_ _ _ _ _ _ _ _=>.no
 |x::r=>BG.rec (motive:=λ_=>BD1) (λx=>BL.rec (motive:=λ_=>BD1) (λv=>BS.rec (motive:=λ_=>BD1) (λd=>.mk (afe x v d)) (dB f)) (vsB r)) (vB x)
def dO1 (o:OP):BD1:=match o with
 |.op ⟨k,args,j,g⟩ al=>(match HZ (.op ⟨k,args,j,g⟩ al)with
  |true=>BO.rec (motive:=λ_=>BD1) (λf=>.mk (aaF ⟨k,args,j,g⟩ f)) (cO1 (.op ⟨k,args,j,g⟩ al))
  |false=>(match g with
   |none=>BE.rec (motive:=λ_=>BD1) (λf=>BL.rec (motive:=λ_=>BD1) (λv=>BS.rec (motive:=λ_=>BD1) (λd=>.mk (agV ⟨k,args,j,none⟩ al f v d)) (dB j)) (vsB args)) (eB k)
   |some p=>.mk (aaD ⟨k,args,j,some p⟩ al)))
 |.call args j g=>(match g with
  |none=>dC1 args j
  |some (p,w)=>BD1.rec (motive:=λ_=>BD1) (λf=>BG.rec (motive:=λ_=>BD1) (λg=>BS.rec (motive:=λ_=>BD1) (λd=>.mk (dGd g w d f)) (dB j)) (gB p)) (dC1 args j))
 |_=>.mk λ_ _ _ _ _ _ _ _=>.no
def dOs:List OP→BD
 |[]=>.mk λ_ _ _ e d _ n k=>k [] e d n
 |o::l=>BD1.rec (motive:=λ_=>BD) (λf=>BD.rec (motive:=λ_=>BD) (λg=>.mk λck b j e d r n k=>f ck b j e d r n λi e d r n=>g ck b j e d r n λl e d n=>k (i::l) e d n) (dOs l)) (dO1 o)
def alN:List OP→Nat
 |[]=>0
 |.op _ true::l=>Nat.succ (alN l)
 |_::l=>alN l
def Ys (m:Nat)(b:HP):DM→Pos→(List Pos→DM→Pos→RX)→RX:=Nat.rec (motive:=λ_=>DM→Pos→(List Pos→DM→Pos→RX)→RX) (λd n k=>k [] d n) (λ_ j d n k=>frK b d n (dSK n .res d λp=>sPK n λf=>j p f λl r g=>k (n::l) r g)) m
def afN (l:List Inf)(ps:List (Nat×Nat))(k:RX):RX:=List.rec (motive:=λ_=>RX) k (λp _ f=>bC (fB l p) f .no) ps
def drF (m:Nat)(ps:List (Nat×Nat))(g:ahr):Clo:=λck _ b e d n k=>Ys m b d n λf p j=>g ck b f e p n j λl e d n=>afN l ps (k .normal e d n)
def acu (m:Nat)(ps:List (Nat×Nat)):Bool:=ps.all λp=>Nat.blt p.1 m&&Nat.blt p.2 m
def dFc (j:List OP)(ps:List (Nat×Nat)):BC:=match Sk j&&acu j.length ps with
 |true=>BO.rec (motive:=λ_=>BC) (λf=>.mk (Na f)) (cOs j)
 |false=>BD.rec (motive:=λ_=>BC) (λg=>.mk (drF (alN j) (RK j ps) g)) (dOs j)
def fc:FC→BC
 |.skip=>.mk λ_ _ _ e d n k=>k .normal e d n
 |.region g=>BO.rec (motive:=λ_=>BC) (λf=>.mk (Na f)) (cOs g)
 |.drawn g ps=>dFc g ps
 |.seq x y=>c2 afG (fc x) (fc y)
 |.cond c x y=>BG.rec (motive:=λ_=>BC) (λc=>c2 (aaL c) (fc x) (fc y)) (vB c)
 |.block id x=>c1 (Sd id) (fc x)
 |.loop x=>c1 ae5 (fc x)
 |.exit id=>.mk λ_ _ _ e d n k=>k (.exit id) e d n
 |.ret=>.mk λ_ _ _ e d n k=>k .ret e d n
 |c=>.mk λck j b e d n k=>bX (exec ck j c b e d n) k
inductive FJ where
 |no
 |ok (code:Clo) (res:List FR) (nt:Nat)
def fj (g:FuncId→Option Fi)(f:FuncId):FJ:=match g f with
 |some x=>BC.rec (motive:=λ_=>FJ) (λc=>.ok c x.res x.nt) (fc x.code)
 |none=>.no
abbrev Tb:=FuncId→HP→List TV→DM→Pos→RC
def QY:Tb:=λ_ _ _ _ _=>.no
def Kj (a:RC)(b:RC):RC:=match a with
 |.no=>b
 |.ok v d n=>.ok v d n
def mkT (p:Tb)(r:FuncId→Option Fi)(g:Nat):Nat→Yk→Ck
 |0,l,b,t,args,d,n=>match t with
  |.yld j=>l b j args d n
  |.fn _=>.no
 |dp+1,l,b,t,args,d,n=>match t with
  |.yld j=>l b j args d n
  |.fn f=>Kj (p f b args d n) (match r f with
   |some x=>match Nat.ble args.length x.nt with
    |true=>Vb b x.res (exec (Hd (mkT p r g dp) l) g x.code b (ow args .e .leaf) d n)
    |false=>.no
   |none=>.no)
def ofA (l:List TV):Env→Pos→Env:=List.rec (motive:=λ_=>Env→Pos→Env) (λe _=>e) (λa _ f e p=>f (BS.rec (motive:=λ_=>Env) (λs=>s a e) (sB p)) (sP p)) l
def lnT (l:List TV):Nat:=List.rec (motive:=λ_=>Nat) 0 (λ_ _ f=>Nat.add f 1) l
def mkR (p:Tb)(J:FuncId→Option Fi)(g:Nat):Nat→Yk→Ck:=λP=>Nat.rec (motive:=λ_=>Yk→Ck)
 (λl b t args d n=>Tgt.rec (motive:=λ_=>RC) (λ_=>.no) (λj=>l b j args d n) t)
 (λ_ C l b t args d n=>Tgt.rec (motive:=λ_=>RC) (λf=>RC.rec (motive:=λ_=>RC) (FJ.rec (motive:=λ_=>RC) .no (λc res r=>Bool.rec (motive:=λ_=>RC) .no (Vb b res (c (Hd C l) g b (ofA args .leaf .e) d n λx e d n=>.ok x e d n)) (Nat.ble (lnT args) r)) (fj J f)) (λv d n=>.ok v d n) (p f b args d n)) (λj=>l b j args d n) t) P
def Oq:∀p:Pos,gB p = .mk (λe=>PM.get .unk e p)
 |.e=>by show BG.mk vl=_;congr 1;funext e;cases e <;> rfl
 |.o p=>by show BG.rec (motive:=λ_=>BG) (λg=>.mk λt=>g (lf t)) (gB p)=_;rw[Oq p];show BG.mk (λt=>PM.get .unk (lf t) p)=_;congr 1;funext e;cases e <;> rfl
 |.i p=>by show BG.rec (motive:=λ_=>BG) (λg=>.mk λt=>g (rt t)) (gB p)=_;rw[Oq p];show BG.mk (λt=>PM.get .unk (rt t) p)=_;congr 1;funext e;cases e <;> rfl
def SM:∀p:Pos,sB p = .mk (λx t=>PM.set .unk p t x)
 |.e=>by show BS.mk _=_;congr 1;funext x e;cases e <;> rfl
 |.o p=>by show BS.rec (motive:=λ_=>BS) (λs=>.mk λx t=>PM.rec (motive:=λ_=>Env) (.node (s x .leaf) .unk .leaf) (λl a r _ _=>.node (s x l) a r) t) (sB p)=_;rw[SM p];show BS.mk _=_;congr 1;funext x e;cases e <;> rfl
 |.i p=>by show BS.rec (motive:=λ_=>BS) (λs=>.mk λx t=>PM.rec (motive:=λ_=>Env) (.node .leaf .unk (s x .leaf)) (λl a r _ _=>.node l a (s x r)) t) (sB p)=_;rw[SM p];show BS.mk _=_;congr 1;funext x e;cases e <;> rfl
def vU (s:Src):vB s = .mk (λe=>bo e s):=by
 cases s with
 |t p=>exact Oq p
 |c v=>rfl
def zM (d:Option Pos):dB d = .mk (λv e=>aX e d v):=by
 cases d with
 |none=>rfl
 |some p=>exact SM p
def Jw:∀l:List Src,vsB l = .mk (λe=>aV e l)
 |[]=>rfl
 |s::l=>by show BG.rec (motive:=λ_=>BL) (λg=>BL.rec (motive:=λ_=>BL) (λh=>.mk λe=>g e::h e) (vsB l)) (vB s)=_;rw[Jw l,vU s];rfl
def aaH:∀(k:Pos) (d:DM),dG k d=PM.get none d k
 |.e,d=>by cases d <;> rfl
 |.o k,d=>by show dG k (dlf d)=_;rw[aaH k];cases d <;> rfl
 |.i k,d=>by show dG k (drt d)=_;rw[aaH k];cases d <;> rfl
def oJ (o:EO):∀(k:Pos) (d:DM) (K:DM→RX),dSK k o d K=K (fE d k o)
 |.e,d,K=>by cases d <;> rfl
 |.o k,d,K=>by
  cases d with
  |leaf=>exact oJ o k .leaf _
  |node l a r=>exact oJ o k l _
 |.i k,d,K=>by
  cases d with
  |leaf=>exact oJ o k .leaf _
  |node l a r=>exact oJ o k r _
def wX:∀(p:Pos) (K:Pos→RX),sPK p K=K p.succ
 |.e,_=>rfl
 |.o _,_=>rfl
 |.i p,K=>wX p λq=>K (.o q)
def aeX:∀p:Pos,sP p=p.succ
 |.e=>rfl
 |.o _=>rfl
 |.i p=>by show Pos.o (sP p)=_;rw[aeX p];rfl
def SY:∀p:Pos,pN p=p.num
 |.e=>rfl
 |.o p=>by show Nat.add (Nat.mul 2 (pN p)) 1=_;rw[SY p];rfl
 |.i p=>by show Nat.add (Nat.mul 2 (pN p)) 2=_;rw[SY p];rfl
def zx:∀(b:HP) (k:Pos),hG b k=b.get k
 |.nil,_=>rfl
 |.ov b d,k=>by show Option.rec (motive:=λ_=>EO) (hG b k) (λo=>o) (dG k d)=_;rw[zx b,aaH];simp[HP.get];cases PM.get none d k <;> rfl
 |.cut b n,k=>by show Bool.rec (motive:=λ_=>EO) .none (hG b k) (Nat.blt (pN k) (pN n))=_;rw[zx b,SY,SY];simp[HP.get];cases Nat.blt k.num n.num <;> rfl
def FG (b:HP)(d:DM)(n:Pos)(k:RX):frK b d n k=bif bz true (HP.ov b d).get n then k else .no:=by unfold frK;rw[zx];simp[bz];cases(HP.ov b d).get n <;> rfl
def mI (t:Bool)(a b:RX):bC t a b=cond t a b:=by cases t <;> rfl
def ae4 (n:Int)(k:Int→RX):nI n k=k n:=by
 cases n with
 |ofNat m=>cases m <;> rfl
 |negSucc m=>cases m <;> rfl
def E0 (n:Nat)(k:Nat→RX):nN n k=k n:=by cases n <;> rfl
def Aq (wr:Option (Pos×EO))(d:DM)(k:DM→RX):sWK wr d k=k (setW d wr):=by
 cases wr with
 |none=>rfl
 |some p=>exact oJ p.2 p.1 d k
def Ej (b:HP)(d:DM)(k:TV→Option (Pos×EO)→RX):∀q:Q,qK b d q k=match q.run (HP.ov b d).get with
  |some (out,wr)=>k out wr
  |none=>.no
 |.fail=>rfl
 |.ret _ _=>rfl
 |.rd p f=>by show qK b d (f (hG (.ov b d) p)) k=_;rw[Ej b d k (f (hG (.ov b d) p)),zx];rfl
def Cn (o:OP):OpC:=λck b e d n k=>match aQ ck b [o] e d n with
 |.ok e d n=>k e d n
 |.no=>.no
def SU (o:FO)(f:Bool):Cn (.op o f)=b0 o f:=by
 funext ck b e d n k;simp[Cn,b0,aQ];cases bz f (HP.ov b d).get n with
 |false=>rfl
 |true =>simp;cases stepF e (HP.ov b d).get n o <;> rfl
section
variable (x y z:Src)(r:Option Pos)
def bg (e:Env)(h:Pos→EO)(f:Pos)(k:K)(args:List Src):stepF e h f ⟨k,args,r,none⟩=(dN k (aV e args) f).run h:=rfl
def abf (k:K)(args:List Src):T4 (dN k) (λe=>aV e args) (λv e=>aX e r v)=b0 ⟨k,args,r,none⟩ false:=by
 funext ck b e d n K;simp[T4,b0,Ej,bg,bz];cases(dN k (aV e args) n).run (HP.ov b d).get with
 |none=>rfl
 |some p=>exact Aq _ _ _
def abe (k:K)(args:List Src):T3 (dN k) (λe=>aV e args) (λv e=>aX e r v)=b0 ⟨k,args,r,none⟩ true:=by
 funext ck b e d n K;simp[T3,b0,Ej,bg,FG];cases bz true (HP.ov b d).get n with
 |false=>rfl
 |true=>
  simp;cases(dN k (aV e args) n).run (HP.ov b d).get with
  |none=>rfl
  |some p=>simp[Aq,wX];rfl
def aeu:ahZ (λe=>bo e x) (λv e=>aX e r v)=b0 ⟨.mov,[x],r,none⟩ false:=rfl
def aa0:aa1 (λe=>bo e x) (λe=>bo e y) (λe=>bo e z) (λv e=>aX e r v)=b0 ⟨.pick,[x,y,z],r,none⟩ false:=by
 funext ck b e d n K;simp[aa1,b0,bg,bz,dN,aV];generalize bo e x=v;obtain _|p|l:=v
 ·rfl
 ·obtain c|l:=p
  ·cases c with
   |bl t=>cases t <;> rfl
   |_=>rfl
  ·rfl
 ·rfl
def aes:ag7 (λe=>bo e x) (λv e=>aX e r v)=b0 ⟨.un .not,[x],r,none⟩ false:=by
 funext ck b e d n K;simp[ag7,b0,bg,bz,dN,aV];generalize bo e x=v;obtain _|p|l:=v
 ·rfl
 ·obtain c|l:=p
  ·cases c with
   |bl t=>cases t <;> rfl
   |_=>rfl
  ·rfl
 ·rfl
def abg (c:Nat):abh c (λe=>bo e x) (λv e=>aX e r v)=b0 ⟨.fadr c,[x],r,none⟩ false:=by
 funext ck b e d n K;simp[abh,b0,bg,bz,dN,aV,E0];generalize bo e x=v;obtain _|p|l:=v
 ·rfl
 ·obtain c|l:=p
  ·cases c <;> rfl
  ·rfl
 ·rfl
def Zh:∀l:List Nat,lnN l=l.length
 |[]=>rfl
 |_::l=>by show Nat.add (lnN l) 1=_;rw[Zh l];rfl
def KE:∀l:List CV,lnC l=l.length
 |[]=>rfl
 |_::l=>by show Nat.add (lnC l) 1=_;rw[KE l];rfl
def Zg:∀l:List TV,lnT l=l.length
 |[]=>rfl
 |_::l=>by show Nat.add (lnT l) 1=_;rw[Zg l];rfl
def aa4:aa5 (λe=>bo e x) (λv e=>aX e r v)=b0 ⟨.lens,[x],r,none⟩ false:=by
 funext ck b e d n K;simp[aa5,b0,bg,bz,dN,aV,E0];generalize bo e x=v;obtain _|p|l:=v
 ·rfl
 ·obtain c|l:=p
  ·cases c with
   |str s =>simp[IM,eE,sW,Q.run,asS,asC,Zh];rfl
   |_=>rfl
  ·rfl
 ·rfl
def aa6:aa7 (λe=>bo e x) (λv e=>aX e r v)=b0 ⟨.lenl,[x],r,none⟩ false:=by
 funext ck b e d n K;simp[aa7,b0,bg,bz,dN,aV,E0];generalize bo e x=v;obtain _|p|l:=v
 ·rfl
 ·obtain c|l:=p
  ·cases c with
   |sl p g o n c =>simp[IN,eE,sW,Q.run,asC];rfl
   |_=>rfl
  ·rfl
 ·rfl
def aet:ag8 (λe=>bo e x) (λv e=>aX e r v)=b0 ⟨.nilchk,[x],r,none⟩ false:=by
 funext ck b e d n K;simp[ag8,b0,bg,bz,dN,aV];generalize bo e x=v;obtain _|p|l:=v
 ·rfl
 ·obtain c|l:=p
  ·cases c <;> rfl
  ·rfl
 ·rfl
def S8 (k:PV→RX):∀(l:List PV) (i:Nat),ac9 l i k=match l.drop i with
  |p::_=>k p
  |[]=>.no
 |[],i=>by simp[ac9]
 |a::l,0=>rfl
 |a::l,i+1=>by show ac9 l i k=_;rw[S8 k l i];rfl
def abj (i:Nat):abk i (λe=>bo e x) (λv e=>aX e r v)=b0 ⟨.ext i,[x],r,none⟩ false:=by
 funext ck b e d n K;simp[abk,b0,bg,bz,dN,aV,S8];generalize bo e x=v;obtain _|p|l:=v
 ·rfl
 ·rfl
 ·simp[Wy,tuK];cases l.drop i <;> rfl
def S9 (k:Nat→RX):∀(l:List Nat) (i:Nat),ada l i k=match l.drop i with
  |p::_=>k p
  |[]=>.no
 |[],i=>by simp[ada]
 |a::l,0=>rfl
 |a::l,i+1=>by show ada l i k=_;rw[S9 k l i];rfl
def aba:abb (λe=>bo e x) (λe=>bo e y) (λv e=>aX e r v)=b0 ⟨.idxs,[x,y],r,none⟩ false:=by
 funext ck b e d n K;simp[abb,b0,bg,bz,dN,aV,E0,S9];generalize bo e x=v;generalize bo e y=u;obtain _|p|l:=v
 ·rfl
 ·obtain c|l:=p
  ·cases c with
   |str s=>
    obtain _|p|l:=u
    ·rfl
    ·obtain c|l:=p
     ·cases c with
      |int f i=>
       cases i with
       |ofNat i=>
        simp[IP,asS,asC,asI];cases s.drop i with
        |nil=>rfl
        |cons c t=>simp[eE,sW,Q.run];rfl
       |negSucc i=>rfl
      |_=>rfl
     ·rfl
    ·rfl
   |_=>rfl
  ·rfl
 ·rfl
def abc (s:Nat):abd s (λe=>bo e x) (λe=>bo e y) (λv e=>aX e r v)=b0 ⟨.idxl s,[x,y],r,none⟩ false:=by
 funext ck b e d n K;simp[abd,b0,bg,bz,dN,aV,E0];generalize bo e x=v;generalize bo e y=u;obtain _|p|l:=v
 ·rfl
 ·obtain c|l:=p
  ·cases c with
   |sl p g o m c=>
    obtain _|p|l:=u
    ·rfl
    ·obtain c|l:=p
     ·cases c with
      |int f i=>
       cases i with
       |ofNat i =>simp[IQ,asL,asC,asI,mI];cases Nat.blt i m <;> rfl
       |negSucc i=>rfl
      |_=>rfl
     ·rfl
    ·rfl
   |_=>rfl
  ·rfl
 ·rfl
def vD (f:Int→Int→Bool)(fn:Nat→Nat→Bool)(op:BinOp)(T:∀k a b,Gu op k a b=sK (f a b))(R:∀a b,fn a b=f (.ofNat a) (.ofNat b))(P:op ≠ .shl∧op ≠ .shr):Pg f fn op (λe=>bo e x) (λe=>bo e y) (λv e=>aX e r v)=b0 ⟨.bin op,[x,y],r,none⟩ false:=by
 funext ck b e d n K;simp[Pg,b0,bg,bz,dN,aV,Ej];generalize bo e x=v;generalize bo e y=u;have J:(match (rX op [v,u] n).run (HP.ov b d).get with|some (out,wr)=>sWK wr d λd=>K (aX e r out) d n|none=>RX.no)=(match (rX op [v,u] n).run (HP.ov b d).get with|some (out,wr)=>K (aX e r out) (setW d wr) (cN false n)|none=>.no):=by
  cases(rX op [v,u] n).run (HP.ov b d).get with
  |none=>rfl
  |some p=>exact Aq _ _ _
 obtain _|p|l:=v
 ·rfl
 ·obtain c|l:=p
  ·cases c with
   |int j a=>
    simp[asI,asC];obtain _|p|l:=u
    ·rfl
    ·obtain c|l:=p
     ·cases c with
      |int C g=>
       have e1:rX op [.pv (.one (.int j a)),.pv (.one (.int C g))] n=bif kq j C then Gu op j a g else .fail:=by
        cases op <;> first|rfl|exact absurd rfl P.1|exact absurd rfl P.2
       rw[e1,T];simp[mI];cases kq j C with
       |false=>rfl
       |true=>
        have U:i2 a g (λa g=>bif fn a g then K (aX e r (oB true)) d n else K (aX e r (oB false)) d n) (bif f a g then K (aX e r (oB true)) d n else K (aX e r (oB false)) d n)=K (aX e r (oB (f a g))) d n:=by
         cases a with
         |ofNat a=>
          cases g with
          |ofNat g =>show(bif fn a g then K (aX e r (oB true)) d n else K (aX e r (oB false)) d n)=_;rw[R];cases f (.ofNat a) (.ofNat g) <;> rfl
          |negSucc g=>show(bif f _ _ then _ else _)=_;cases f (.ofNat a) (.negSucc g) <;> rfl
         |negSucc a=>show(bif f _ _ then _ else _)=_;cases f (.negSucc a) g <;> rfl
        simp;rw[U];rfl
      |_=>rfl
     ·rfl
    ·rfl
   |_=>exact J
  ·rfl
 ·rfl
def Xp (s:Nat)(h:Nat.blt s 9223372036854775808=true):IntKind.wrap .i64 (.ofNat s) = .ofNat s:=by
 have h:=cg.1 h;have f:(s:Int)%(2^64:Int)=s:=Ω
 have g:IntKind.wrap .i64 (s:Int)=if (true&&decide ((s:Int)%(2^64:Int)≥(2^63:Int)))=true then(s:Int)%(2^64:Int)-(2^64:Int)else(s:Int)%(2^64:Int):=rfl
 show IntKind.wrap .i64 (s:Int)=(s:Int);rw[g,Θ]
 ·exact f
 ·simp[f];omega
def Tv {k:IntKind}(h:Rn k=true):k = .i64:=by cases k <;> first|rfl|cases h
def aez:ahh (λe=>bo e x) (λe=>bo e y) (λv e=>aX e r v)=b0 ⟨.bin .add,[x,y],r,none⟩ false:=by
 funext ck b e d n K;simp[ahh,b0,bg,bz,dN,aV,Ej,ae4,E0];generalize bo e x=v;generalize bo e y=u;have J:(match (rX .add [v,u] n).run (HP.ov b d).get with|some (out,wr)=>sWK wr d λd=>K (aX e r out) d n|none=>RX.no)=(match (rX .add [v,u] n).run (HP.ov b d).get with|some (out,wr)=>K (aX e r out) (setW d wr) (cN false n)|none=>.no):=by
  cases(rX .add [v,u] n).run (HP.ov b d).get with
  |none=>rfl
  |some p=>exact Aq _ _ _
 obtain _|p|l:=v
 ·rfl
 ·obtain c|l:=p
  ·cases c with
   |int f a=>
    simp[asI,asC];obtain _|p|l:=u
    ·rfl
    ·obtain c|l:=p
     ·cases c with
      |int P g=>
       show bC _ _ _=match (cond (kq f P) (Gu .add f a g) .fail).run (HP.ov b d).get with|some (out,wr)=>_|none=>_
       simp[mI];cases kq f P with
       |false=>rfl
       |true=>
        simp[Gu,eE,sW,Q.run];have tail:∀m:Int,m=f.wrap (a+g)→K (aX e r (oI f m)) d n=K (aX e r (.pv (.one (.int f (f.wrap (a+g)))))) (setW d none) (cN false n):=λm R=>by rw[R];rfl
        cases a with
        |negSucc a=>exact tail _ rfl
        |ofNat a=>
         cases g with
         |negSucc g=>exact tail _ rfl
         |ofNat g=>
          show(bif Rn f then bif Nat.blt (Nat.add a g) 9223372036854775808 then _ else _ else _)=_;cases C:Rn f with
          |false=>exact tail _ rfl
          |true=>
           have:=Tv C;subst this;simp;cases j:Nat.blt (Nat.add a g) 9223372036854775808 with
           |false=>exact tail _ rfl
           |true=>exact tail _ (Xp _ j).symm
      |_=>rfl
     ·rfl
    ·rfl
   |_=>exact J
  ·rfl
 ·rfl
def aeq:ag6 (λe=>bo e x) (λe=>bo e y) (λv e=>aX e r v)=b0 ⟨.bin .sub,[x,y],r,none⟩ false:=by
 funext ck b e d n K;simp[ag6,b0,bg,bz,dN,aV,Ej,ae4,E0];generalize bo e x=v;generalize bo e y=u;have P:(match (rX .sub [v,u] n).run (HP.ov b d).get with|some (out,wr)=>sWK wr d λd=>K (aX e r out) d n|none=>RX.no)=(match (rX .sub [v,u] n).run (HP.ov b d).get with|some (out,wr)=>K (aX e r out) (setW d wr) (cN false n)|none=>.no):=by
  cases(rX .sub [v,u] n).run (HP.ov b d).get with
  |none=>rfl
  |some p=>exact Aq _ _ _
 obtain _|p|l:=v
 ·rfl
 ·obtain c|l:=p
  ·cases c with
   |int g a=>
    simp[asI,asC];obtain _|p|l:=u
    ·rfl
    ·obtain c|l:=p
     ·cases c with
      |int R f=>
       show bC _ _ _=match (cond (kq g R) (Gu .sub g a f) .fail).run (HP.ov b d).get with|some (out,wr)=>_|none=>_
       simp[mI];cases kq g R with
       |false=>rfl
       |true=>
        simp[Gu,eE,sW,Q.run];have tail:∀m:Int,m=g.wrap (a-f)→K (aX e r (oI g m)) d n=K (aX e r (.pv (.one (.int g (g.wrap (a-f)))))) (setW d none) (cN false n):=λm T=>by rw[T];rfl
        cases a with
        |negSucc a=>exact tail _ rfl
        |ofNat a=>
         cases f with
         |negSucc f=>exact tail _ rfl
         |ofNat f=>
          show(bif Nat.ble f a then bif Rn g then bif Nat.blt a 9223372036854775808 then _ else _ else _ else _)=_;cases C:Nat.ble f a with
          |false=>exact tail _ rfl
          |true=>
           simp;cases J:Rn g with
           |false=>exact tail _ rfl
           |true=>
            have:=Tv J;subst this;simp;cases j:Nat.blt a 9223372036854775808 with
            |false=>exact tail _ rfl
            |true=>
             have C:=bm.1 C;have j:=cg.1 j;have U:(Int.ofNat a-Int.ofNat f:Int)=Int.ofNat (Nat.sub a f):=by show(a:Int)-(f:Int)=((a-f:Nat):Int);omega
             refine tail _ ?_;rw[U];exact(Xp _ (cg.2 (ajO (Nat.sub_le a f) j))).symm
      |_=>rfl
     ·rfl
    ·rfl
   |_=>exact P
  ·rfl
 ·rfl
def J9:∀(t:PT Ch) (i:Nat),ptG t i=t.get dch i
 |.leaf,_=>rfl
 |.node l a r,0=>rfl
 |.node l a r,i+1=>by
  show Bool.rec (motive:=λ_=>Ch) (ptG r (Nat.div i 2)) (ptG l (Nat.div i 2)) (Nat.beq (Nat.mod i 2) 0)=_;rw[J9 l,J9 r];show _=match Nat.beq (i%2) 0 with|true=>l.get dch (i/2)|false=>r.get dch (i/2)
  show Bool.rec (motive:=λ_=>Ch) (r.get dch (i/2)) (l.get dch (i/2)) (Nat.beq (i%2) 0)=_;cases Nat.beq (i%2) 0 <;> rfl
def RY:∀(l:List CV) (n:Nat),drC l n=l.drop n
 |[],n=>by simp[drC]
 |_::_,0=>rfl
 |_::l,n+1=>RY l n
def PQ:∀(l:List CV) (n:Nat),tkC l n=l.take n
 |[],n=>by simp[tkC]
 |_::_,0=>rfl
 |a::l,n+1=>by show a::tkC l n=_;rw[PQ l n];rfl
def aby (m:List CV):∀l:List CV,apC l m=l++m
 |[]=>rfl
 |a::l=>by show a::apC l m=_;rw[aby m l];rfl
def afC (g:List CV)(f:Nat)(new:List CV):spC g f new=de g f new:=by simp only[spC,de,aby,PQ,RY,KE,D_];rfl
def QB (x:Ch):∀(f:Nat) (t:PT Ch) (i:Nat),ptS f t i x=PT.set dch f t i x
 |0,_,_=>rfl
 |f+1,t,0=>by cases t <;> rfl
 |f+1,t,i+1=>by
  show Bool.rec (motive:=λ_=>PT Ch) (.node (pgL t) (pgV t) (ptS f (pgR t) (Nat.div i 2) x)) (.node (ptS f (pgL t) (Nat.div i 2) x) (pgV t) (pgR t)) (Nat.beq (Nat.mod i 2) 0)=_;rw[QB x f,QB x f];show Bool.rec (motive:=λ_=>PT Ch) (.node (pgL t) (pgV t) (PT.set dch f (pgR t) (i/2) x)) (.node (PT.set dch f (pgL t) (i/2) x) (pgV t) (pgR t)) (Nat.beq (i%2) 0)=_;cases t with
  |leaf =>simp[PT.set];cases Nat.beq (i%2) 0 <;> rfl
  |node l a r =>simp[PT.set];cases Nat.beq (i%2) 0 <;> rfl
def Yv (b:HP)(d:DM)(p:Pos)(g f m:Nat)(K:List CV→RX):rdK b d p g f m K=match (HP.ov b d).get p with
  |.row _ s r len j _=>bif Nat.ble g j&&Nat.blt (f/s) len then
    match r.get dch (f/s)with
    |⟨C,l⟩=>bif Nat.ble l g&&Nat.ble (f%s+m) s then K (C.drop (f%s))else .no
   else .no
  |_=>.no:=by
 unfold rdK;rw[zx];cases(HP.ov b d).get p with
 |row t s r len j fz=>
  show bC (Nat.ble g j) (bC (Nat.blt (f/s) len) (chK (ptG r (f/s)) λC l=>bC (Nat.ble l g) (bC (Nat.ble (f%s+m) s) (K (drC C (f%s))) .no) .no) .no) .no=_;simp[mI,J9,RY];cases Nat.ble g j with
  |false=>rfl
  |true=>
   cases Nat.blt (f/s) len with
   |false=>rfl
   |true=>
    simp;cases r.get dch (f/s)with
    |mk C l=>
     show(bif Nat.ble l g then(bif Nat.ble (f%s+m) s then _ else _)else _)=_;cases Nat.ble l g with
     |false=>rfl
     |true=>cases Nat.ble (f%s+m) s <;> rfl
 |_=>rfl
def NV (h:Pos→EO)(s:Nat)(agg:Bool)(p:Pos)(g j:Nat)(f:Pos):(FZ s agg [.pv (.one (.ptr p g j))] f).run h=match h p with
  |.row _ l J len r _=>bif Nat.ble g r&&Nat.blt (j/l) len then
    match J.get dch (j/l)with
    |⟨P,C⟩=>bif Nat.ble C g&&Nat.ble (j%l+s) l then(match GK agg ((P.drop (j%l)).take s)with|some p=>some (.pv p,none)|none=>none)else none
   else none
  |_=>none:=by
 simp[FZ,Q.run,Ei];cases h p with
 |row t l J len r fz=>
  simp only;cases(Nat.ble g r&&Nat.blt (j/l) len)with
  |false=>rfl
  |true=>
   simp;cases J.get dch (j/l)with
   |mk P C=>
    simp only;cases(Nat.ble C g&&Nat.ble (j%l+s) l)with
    |false=>rfl
    |true =>simp;cases GK agg ((P.drop (j%l)).take s) <;> rfl
 |_=>rfl
def aew:aha (λe=>bo e x) (λv e=>aX e r v)=b0 ⟨.load 1 false,[x],r,none⟩ false:=by
 funext ck b e d n K;simp[aha,b0,bg,bz,dN,aV,Yv];generalize bo e x=v;obtain _|p|l:=v
 ·rfl
 ·obtain c|l:=p
  ·cases c with
   |ptr p g f=>
    rw[NV];simp[asR,asC];cases(HP.ov b d).get p with
    |row t j P len C fz=>
     simp only;cases(Nat.ble g C&&Nat.blt (f/j) len)with
     |false=>rfl
     |true=>
      simp;cases P.get dch (f/j)with
      |mk R J=>
       simp only;cases(Nat.ble J g&&Nat.ble (f%j+1) j)with
       |false=>rfl
       |true =>simp;cases R.drop (f%j) <;> rfl
    |_=>rfl
   |_=>rfl
  ·rfl
 ·rfl
def aev (s:Nat):ag9 s (λe=>bo e x) (λv e=>aX e r v)=b0 ⟨.load s true,[x],r,none⟩ false:=by
 funext ck b e d n K;simp[ag9,b0,bg,bz,dN,aV,Yv,PQ];generalize bo e x=v;obtain _|p|l:=v
 ·rfl
 ·obtain c|l:=p
  ·cases c with
   |ptr p g f=>
    rw[NV];simp[asR,asC];cases(HP.ov b d).get p with
    |row t j P len C fz=>
     simp only;cases(Nat.ble g C&&Nat.blt (f/j) len)with
     |false=>rfl
     |true=>
      simp;cases P.get dch (f/j)with
      |mk R J=>
       simp only;cases(Nat.ble J g&&Nat.ble (f%j+s) j)with
       |false=>rfl
       |true=>rfl
    |_=>rfl
   |_=>rfl
  ·rfl
 ·rfl
def aaU (p:PV):clP p=p.cells:=by cases p <;> rfl
def US (h:Pos→EO)(s:Nat)(p:Pos)(g j:Nat)(v:PV)(f:Pos):(AU s [.pv (.one (.ptr p g j)),.pv v] f).run h=bif Nat.beq v.cells.length s then(match h p with
  |.row t l C len r fz=>bif Nat.beq g r&&Nat.blt (j/l) len&&Nat.ble (j%l+v.cells.length) l&&Ot fz then
    match C.get dch (j/l)with
    |⟨J,_⟩=>some (.unk,some (p,.row t l (C.set dch 32 (j/l) ⟨de J (j%l) v.cells,r⟩) len r fz))
   else none
  |_=>none)else none:=by
 simp[AU];cases Nat.beq v.cells.length s with
 |false=>rfl
 |true=>
  simp[Q.run,Dd];cases h p with
  |row t l C len r fz=>
   simp only;cases(Nat.beq g r&&Nat.blt (j/l) len&&Nat.ble (j%l+v.cells.length) l&&Ot fz)with
   |false=>rfl
   |true=>
    simp;cases C.get dch (j/l)with
    |mk J P=>rfl
  |_=>rfl
def WS (m:Nat):R6 m (λe=>bo e x) (λe=>bo e y) (λv e=>aX e r v)=b0 ⟨.store m,[x,y],r,none⟩ false:=by
 funext ck b e d n K;simp[R6,b0,bg,bz,dN,aV,zx,aaU,KE,oJ];generalize bo e x=v;generalize bo e y=u;obtain _|p|l:=v
 ·rfl
 ·obtain c|l:=p
  ·cases c with
   |ptr p g f=>
    obtain _|u|l:=u
    ·rfl
    ·rw[US];simp[asR,asC,asP,mI];cases J:Nat.beq u.cells.length m with
     |false=>rfl
     |true=>
      have J:u.cells.length=m:=κ J;simp;cases(HP.ov b d).get p with
      |row t j P len C fz=>
       simp[roW,J];cases Nat.beq g C with
       |false=>rfl
       |true=>
        show(bif Nat.blt (f/j) len then(bif Nat.ble (f%j+m) j then fzK fz (chK (ptG P (f/j)) λR _=>K (aX e r .unk) (fE d p (.row t j (ptS 32 P (f/j) ⟨spC R (f%j) u.cells,C⟩) len C fz)) n)else .no)else .no)=_;cases Nat.blt (f/j) len with
        |false=>rfl
        |true=>
         cases Nat.ble (f%j+m) j with
         |false=>rfl
         |true=>
          simp[QB,afC,J9];cases fz with
          |no=>
           simp[fzK,Ot];cases P.get dch (f/j)with
           |mk R T=>rfl
          |_=>rfl
      |_=>rfl
    ·rfl
   |_=>obtain _|u|l:=u <;> rfl
  ·obtain _|u|l:=u <;> rfl
 ·obtain _|u|l:=u <;> rfl
def WT (t:TypeId)(f:List CV):R9 t f (λv e=>aX e r v)=b0 ⟨.alloc t f,[],r,none⟩ true:=by funext ck b e d n K;simp[R9,b0,bg,FG,oJ,wX];cases bz true (HP.ov b d).get n <;> rfl
def aey (t:TypeId)(s:Nat):ahg t s (λe=>bo e x) (λv e=>aX e r v)=b0 ⟨.box t s,[x],r,none⟩ true:=by
 funext ck b e d n K;simp[ahg,b0,bg,FG,oJ,wX,aV,dN,aaU,KE];cases bz true (HP.ov b d).get n with
 |false=>rfl
 |true=>
  simp;generalize bo e x=v;obtain _|p|l:=v
  ·rfl
  ·simp[asP,mI,aas];cases Nat.beq p.cells.length s <;> rfl
  ·rfl
end
def aat (k:K):eB k = .mk (dN k):=by cases k <;> rfl
def wy (f:Gt→St'→OpC)(x:Src)(r:Option Pos):m1 f x r = .mk (f (λe=>bo e x) (λv e=>aX e r v)):=by unfold m1;rw[vU,zM]
def tm (f:Gt→Gt→St'→OpC)(x y:Src)(r:Option Pos):m2 f x y r = .mk (f (λe=>bo e x) (λe=>bo e y) (λv e=>aX e r v)):=by unfold m2;rw[vU,vU,zM]
def ahN (f:Gt→Gt→Gt→St'→OpC)(x y z:Src)(r:Option Pos):m3 f x y z r = .mk (f (λe=>bo e x) (λe=>bo e y) (λe=>bo e z) (λv e=>aX e r v)):=by unfold m3;rw[vU,vU,vU,zM]
def Zd (f:(Env→List TV)→St'→OpC)(l:List Src)(r:Option Pos):mL f l r = .mk (f (λe=>aV e l) (λv e=>aX e r v)):=by unfold mL;rw[Jw,zM]
def adK (k:K)(args:List Src)(r:Option Pos):adL k args r = .mk (b0 ⟨k,args,r,none⟩ false):=by unfold adL;rw[aat];show mL (T4 (dN k)) args r=_;rw[Zd,abf]
def adJ (k:K)(args:List Src)(r:Option Pos):agB k args r = .mk (b0 ⟨k,args,r,none⟩ true):=by unfold agB;rw[aat];show mL (T3 (dN k)) args r=_;rw[Zd,abe]
def adb (b:Bool):(Bool.rec (motive:=λ_=>Bool) true false b:Bool) = !b:=by cases b <;> rfl
def ahc (k:K)(args:List Src)(r:Option Pos):cK0 k args r = .mk (b0 ⟨k,args,r,none⟩ false):=by
 unfold cK0;split
 ·rw[wy,aeu]
 ·rw[ahN,aa0]
 ·rw[tm,aba]
 ·rw[wy,aa4]
 ·rw[wy,aa6]
 ·rw[wy,abg]
 ·rw[tm,WS]
 ·rw[tm,abc]
 ·rw[wy,aew]
 ·rw[wy,aev]
 ·rw[wy,aet]
 ·rw[wy,abj]
 ·rw[wy,aes]
 ·rw[tm,vD _ _ _ _ _ _ (λ_ _ _=>rfl) (λa b=>by
   cases h:Nat.beq a b with
   |true=>rw[κ h];simp
   |false=>have:=H_ h;symm;simp;omega) ⟨by decide,by decide⟩]
 ·rw[tm,vD _ _ _ _ _ _ (λ_ _ _=>rfl) (λa b=>by
   rw[adb];cases h:Nat.beq a b with
   |true=>rw[κ h];simp
   |false=>have:=H_ h;symm;simp;omega) ⟨by decide,by decide⟩]
 ·rw[tm,vD _ _ _ _ _ _ (λ_ _ _=>rfl) (λa b=>by
   cases h:Nat.blt a b with
   |true=>have:=cg.1 h;symm;simp;omega
   |false=>
    have:¬a<b:=λq=>by rw[cg.2 q]at h;cases h
    symm;simp;omega) ⟨by decide,by decide⟩]
 ·rw[tm,vD _ _ _ _ _ _ (λ_ _ _=>rfl) (λa b=>by
   cases h:Nat.ble a b with
   |true=>have:=bm.1 h;symm;simp;omega
   |false=>
    have:¬a≤b:=λq=>by rw[bm.2 q]at h;cases h
    symm;simp;omega) ⟨by decide,by decide⟩]
 ·rw[tm,vD _ _ _ _ _ _ (λ_ _ _=>rfl) (λa b=>by
   cases h:Nat.blt b a with
   |true=>have:=cg.1 h;symm;simp;omega
   |false=>
    have:¬b<a:=λq=>by rw[cg.2 q]at h;cases h
    symm;simp;omega) ⟨by decide,by decide⟩]
 ·rw[tm,vD _ _ _ _ _ _ (λ_ _ _=>rfl) (λa b=>by
   cases h:Nat.ble b a with
   |true=>have:=bm.1 h;symm;simp;omega
   |false=>
    have:¬b≤a:=λq=>by rw[bm.2 q]at h;cases h
    symm;simp;omega) ⟨by decide,by decide⟩]
 ·rw[tm,aez]
 ·rw[tm,aeq]
 ·exact adK _ _ _
def ahb (k:K)(args:List Src)(r:Option Pos):cK1 k args r = .mk (b0 ⟨k,args,r,none⟩ true):=by
 unfold cK1;split
 ·rw[zM];show BO.mk _=_;rw[WT]
 ·rw[wy,aey]
 ·exact adJ _ _ _
def aa8 (k:K)(args:List Src)(r:Option Pos)(f:Bool):cKa k args r f = .mk (b0 ⟨k,args,r,none⟩ f):=by
 cases f with
 |false=>exact ahc k args r
 |true=>exact ahb k args r
def ahe (p:Pos)(w f:Bool)(k:K)(args:List Src)(r:Option Pos):cGd (λe=>PM.get .unk e p) w f (λv e=>aX e r v) (b0 ⟨k,args,r,none⟩ f)=b0 ⟨k,args,r,some (p,w)⟩ f:=by
 funext ck b e d n K;simp[cGd,FG,wX];have C:b0 ⟨k,args,r,some (p,w)⟩ f ck b e d n K=bif bz f (HP.ov b d).get n then(match (match (match e.get .unk p with
   |.pv (.one (.bl b))=>some (match w with|true=>b|false=>!b)
   |.tup _=>some false
   |_=>none)with
   |some J=>match J with
    |true=>(dN k (aV e args) n).run (HP.ov b d).get
    |false=>some (.tup [],none)
   |none=>none)with
  |some (out,wr)=>K (aX e r out) (setW d wr) (cN f n)
  |none=>.no)else .no:=rfl
 rw[C];have j:∀K,b0 ⟨k,args,r,none⟩ f ck b e d n K=bif bz f (HP.ov b d).get n then(match (dN k (aV e args) n).run (HP.ov b d).get with
  |some (out,wr)=>K (aX e r out) (setW d wr) (cN f n)
  |none=>.no)else .no:=λ_=>rfl
 have g:(Bool.rec (motive:=λ_=>RX) (K (aX e r (.tup [])) d n) (bif bz true (HP.ov b d).get n then K (aX e r (.tup [])) d n.succ else .no) f:RX)=bif bz f (HP.ov b d).get n then K (aX e r (.tup [])) d (cN f n)else .no:=by cases f <;> rfl
 generalize PM.get .unk e p=v;obtain _|q|l:=v
 ·show RX.no=_;cases bz f (HP.ov b d).get n <;> rfl
 ·obtain c|l:=q
  ·cases c with
   |bl t=>
    simp[mI];cases w <;> cases t <;> first|exact j K|exact g
   |_=>show RX.no=_;cases bz f (HP.ov b d).get n <;> rfl
  ·show RX.no=_;cases bz f (HP.ov b d).get n <;> rfl
 ·exact g
def ZU (p:Pos)(w g:Bool)(r:Option Pos)(f:OpC):gdB p w g r (.mk f) = .mk (cGd (λe=>PM.get .unk e p) w g (λv e=>aX e r v) f):=by unfold gdB;rw[Oq,zM]
def Ve (args:List Src)(r:Option Pos)(ck:Callk)(b:HP)(e:Env)(d:DM)(n:Pos)(k:Ko):Cn (.call args r none) ck b e d n k=match cI (HP.ov b d).get (aV e args)with
  |some (t,f)=>match ck.call b t f d n with
   |.ok out j g=>k (aX e r out) j g
   |.no=>.no
  |none=>.no:=by
 simp[Cn,aQ,gd];cases cI (HP.ov b d).get (aV e args)with
 |none=>rfl
 |some p =>obtain⟨t,f⟩:=p;simp only;cases ck.call b t f d n <;> rfl
def abo (args:List Src)(r:Option Pos):cC1 args r = .mk (Cn (.call args r none)):=by
 unfold cC1;split
 ·congr 1
 next x l=>
  rw[vU];show mL (abn (λe=>bo e x)) l r=_;rw[Zd];congr 1;funext ck b e d n K;rw[Ve];simp[abn,aV];generalize bo e x=v;obtain _|p|m:=v
  ·rfl
  ·obtain c|m:=p
   ·cases c with
    |fnc f =>simp[asC,cI,RCx];cases ck.call b (.fn f) (aV e l) d n <;> rfl
    |clo q=>
     simp[asC,abm,RCx];cases cI (HP.ov b d).get (.pv (.one (.clo q))::aV e l)with
     |none=>rfl
     |some p =>obtain⟨t,g⟩:=p;simp only;cases ck.call b t g d n <;> rfl
    |_=>rfl
   ·rfl
  ·rfl
def Qv (args:List Src)(r:Option Pos)(p:Pos)(w:Bool):cGd (λe=>PM.get .unk e p) w false (λv e=>aX e r v) (Cn (.call args r none))=Cn (.call args r (some (p,w))):=by
 funext ck b e d n K;have f:Cn (.call args r (some (p,w))) ck b e d n K=match (match e.get .unk p with
   |.pv (.one (.bl b))=>some (match w with|true=>b|false=>!b)
   |.tup _=>some false
   |_=>none)with
   |some true=>Cn (.call args r none) ck b e d n K
   |some false=>K (aX e r (.tup [])) d n
   |none=>.no:=by
  simp[Cn,aQ];show(match (match gd e (some (p,w))with|some true=>_|some false=>_|none=>_:RS)with|.ok e d n=>K e d n|.no=>RX.no)=match gd e (some (p,w))with|some true=>_|some false=>_|none=>_
  cases gd e (some (p,w))with
  |none=>rfl
  |some t=>cases t <;> rfl
 rw[f];simp[cGd];generalize PM.get .unk e p=v;obtain _|q|l:=v
 ·rfl
 ·obtain c|l:=q
  ·cases c with
   |bl t =>simp[mI];cases w <;> cases t <;> rfl
   |_=>rfl
  ·rfl
 ·rfl
def aa3 (o:OP):cO1 o = .mk (Cn o):=by
 unfold cO1;split
 next k args r g al=>
  rw[SU];split
  ·exact aa8 k args r al
  next p w=>rw[aa8,ZU,ahe]
 next args r g=>
  split
  ·exact abo args r
  next p w=>rw[abo,ZU,Qv]
 ·rfl
def MV (ck:Callk)(b:HP)(o:OP)(l:List OP)(e:Env)(d:DM)(n:Pos):aQ ck b (o::l) e d n=match aQ ck b [o] e d n with
  |.ok e d n=>aQ ck b l e d n
  |.no=>.no:=by
 cases o with
 |op o j=>
  simp[aQ];cases bz j (HP.ov b d).get n with
  |false=>rfl
  |true =>simp;cases stepF e (HP.ov b d).get n o <;> rfl
 |call args r g=>
  simp[aQ];cases gd e g with
  |none=>rfl
  |some t=>
   cases t with
   |false=>rfl
   |true=>
    simp only;cases cI (HP.ov b d).get (aV e args)with
    |none=>rfl
    |some p =>obtain⟨t,f⟩:=p;simp only;cases ck.call b t f d n <;> rfl
 |nxt x r =>simp[aQ];cases EY (HP.ov b d).get (bo e x) <;> rfl
 |bad=>rfl
def aa2:∀l:List OP,cOs l = .mk (λck b e d n k=>match aQ ck b l e d n with|.ok e d n=>k e d n|.no=>.no)
 |[]=>rfl
 |o::l=>by show BO.rec (motive:=λ_=>BO) (λf=>BO.rec (motive:=λ_=>BO) (λg=>.mk λck b e d n k=>f ck b e d n λe d n=>g ck b e d n k) (cOs l)) (cO1 o)=_;rw[aa3,aa2 l];show BO.mk _=_;congr 1;funext ck b e d n k;rw[MV];simp[Cn];cases aQ ck b [o] e d n <;> rfl
def NoW:Q→Prop
 |.fail=>True
 |.ret _ wr=>wr=none
 |.rd _ f=>∀o,NoW (f o)
def NoW.run {h:Pos→EO}:∀{q:Q},NoW q→∀{out:TV} {wr:Option (Pos×EO)},q.run h=some (out,wr)→wr=none
 |.fail,_,_,_,g=>by cases g
 |.ret _ _,j,out,wr,g=>by cases g;exact j
 |.rd k f,j,out,wr,g=>NoW.run (j (h k)) g
def cW (k:IntKind)(n:Int):NoW (eE k n):=by simp[eE,sW];rfl
def lQ (c:CV):NoW (pm c):=rfl
def yN (c:Bool):NoW (sK c):=rfl
def EU (p:Option PV):NoW (MX p none):=by unfold MX;split <;> trivial
def ez {c:Bool}{p q:Q}(h:NoW p)(k:NoW q):NoW (cond c p q):=by cases c <;> assumption
def Y3 (op:BinOp)(k:IntKind)(a b:Int):NoW (Gu op k a b):=by
 unfold Gu;split <;> first|exact cW _ _|exact yN _|exact ez trivial (cW _ _)|trivial
def Ta (op:BinOp)(k:IntKind)(a b:Int):NoW (shI op k a b):=by
 unfold shI;refine ez trivial ?_;split <;> first|exact cW _ _|trivial
def Y2 (op:BinOp)(a b:List Nat):NoW (abq op a b):=by
 unfold abq;split <;> first|exact yN _|exact ez (lQ _) trivial|trivial
def NI (ok:Bool)(z:PV)(r:Option PV):NoW (uY ok z r):=by unfold uY;split <;> split <;> rfl
def YD:∀(k:K),KN k=true→∀(g:List TV) (f:Pos),NoW (dN k g f):=by
 intro k j g f;cases k <;> first|(cases j;done)|skip
 all_goals simp[dN]
 case mov=>unfold RW;split <;> trivial
 case pick=>unfold TM;split <;> first|trivial|(split <;> trivial)
 case build=>unfold F0;split <;> trivial
 case load=>
  unfold FZ;split
  ·split
   ·intro o;simp only;split
    ·exact EU _
    ·trivial
   ·trivial
  ·trivial
 case nilchk=>unfold zI;split <;> first|trivial|(split <;> trivial)
 case bin op=>
  unfold rX;split
  ·split
   ·split
    ·split
     ·exact Ta _ _ _ _
     ·exact Ta _ _ _ _
     ·exact ez (Y3 _ _ _ _) trivial
    ·exact Y2 _ _ _
    ·trivial
   ·trivial
  ·trivial
 case eql=>unfold aar;split <;> first|trivial|(split <;> first|trivial|exact yN _)
 case un=>unfold eUn;split <;> first|trivial|(split <;> first|trivial|exact yN _|exact cW _ _)
 case cint=>unfold OV;split <;> first|trivial|(split <;> first|trivial|exact cW _ _)
 case same=>unfold ON;split <;> first|trivial|(split <;> trivial)
 case i2s=>unfold aap;split <;> first|trivial|(split <;> first|trivial|exact ez (lQ _) trivial)
 case subs=>
  unfold OM;split
  ·unfold WU;split
   ·split
    ·split
     ·split
      ·exact ez (lQ _) trivial
      ·trivial
     ·trivial
    ·trivial
   ·trivial
  ·trivial
 case fadr=>unfold OU;split <;> first|trivial|(split <;> trivial)
 case fld=>unfold aaq;split <;> first|trivial|(split <;> first|trivial|exact ez (EU _) trivial)
 case idxl=>unfold IQ;split <;> first|trivial|(split <;> first|trivial|exact ez (lQ _) trivial)
 case idxa=>unfold OT;split <;> first|trivial|(split <;> first|trivial|exact ez (lQ _) trivial)
 case idxs=>unfold IP;split <;> first|trivial|(split <;> first|trivial|(split <;> first|trivial|exact cW _ _))
 case idxg=>unfold OS;split <;> first|trivial|(split <;> first|trivial|exact ez (EU _) trivial)
 case look=>
  unfold OO;split
  ·split
   ·refine ez ?_ trivial;split
    ·exact NI _ _ _
    ·intro o;simp only;split
     ·split
      ·exact NI _ _ _
      ·trivial
     ·trivial
    ·trivial
   ·trivial
  ·trivial
 case ext=>unfold Wy;split <;> first|trivial|(split <;> first|trivial|(split <;> trivial))
 case lens=>unfold IM;split <;> first|trivial|(split <;> first|trivial|exact cW _ _)
 case lenl=>unfold IN;split <;> first|trivial|(split <;> first|trivial|exact cW _ _)
 case lenm=>
  unfold OQ;split
  ·split
   ·exact cW _ _
   ·intro o;simp only;split
    ·exact cW _ _
    ·trivial
   ·trivial
  ·trivial
 case lena=>unfold OR;split <;> first|trivial|exact cW _ _
 case capl=>unfold OW;split <;> first|trivial|(split <;> first|trivial|exact cW _ _)
 case mx=>unfold eMx;split <;> first|trivial|(split <;> first|trivial|exact ez (cW _ _) trivial)
 case usd=>unfold aal;split <;> first|trivial|(split <;> first|trivial|exact lQ _|exact ez (lQ _) trivial)
 case ibs=>unfold aao;split <;> first|trivial|(split <;> first|trivial|exact ez (cW _ _) trivial)
variable{o:FO}{al:Bool}
def Au (j:KN o.k=true){e:Env}{h:Pos→EO}{f:Pos}{out:TV}{wr:Option (Pos×EO)}(g:stepF e h f o=some (out,wr)):wr=none:=by
 unfold stepF at g;split at g
 ·split at g
  ·exact(YD _ j _ _).run g
  ·simp at g;exact g.2.symm
 ·cases g
def vO (o:OP):DOp:=λck b l e d r n k=>match o with
 |.op o al=>match stepF e (HP.ov b (eF al d r)).get r o with
  |some (out,wr)=>bif okW (HP.ov b (eF al d r)).get wr then k (.op (eY wr) (trF e (HP.ov b (eF al d r)).get r o) (oE al r wr) (qF e r o) out) (aX e o.dst out) (setW d wr) (cN al r) n else .no
  |none=>.no
 |.call args f g=>match gd e g with
  |some true=>match cI (HP.ov b d).get (aV e args)with
   |some (t,vs)=>match ck.call (.ov b d) t vs .leaf n with
    |.ok out j p=>bif rR j l then k (.call (.ov b d) j) (aX e f out) (lT j d) r p else .no
    |.no=>.no
   |none=>.no
  |some false=>k (.op none [] true .fail .unk) (aX e f (.tup [])) d r n
  |none=>.no
 |_=>.no
def AM {o:FO}{al:Bool}{b:HP}{e:Env}{d:DM}{r:Pos}{out:TV}{wr:Option (Pos×EO)}(h:stepF e (HP.ov b (eF al d r)).get r o=some (out,wr)):ZD o al b e d r = .op (eY wr) (trF e (HP.ov b (eF al d r)).get r o) (oE al r wr) (qF e r o) out:=by unfold ZD;rw[h]
def yv (h:HZ (.op o al)=true):al=false∧KN o.k=true:=by
 cases al with
 |true=>cases h
 |false=>exact⟨rfl,h⟩
def aaE (h:HZ (.op o al)=true):aaF o (b0 o al)=vO (.op o al):=by
 obtain⟨rfl,j⟩:=yv h;funext ck b l e d r n k;simp[aaF,b0,vO,bz,eF];have g:=@AM o false b e d r;simp[eF]at g;cases f:stepF e (HP.ov b d).get r o with
 |none=>rfl
 |some p =>obtain⟨out,wr⟩:=p;have:=Au j f;subst this;rw[g f];rfl
def agb (b:HP)(d:DM)(wr:Option (Pos×EO))(k:RX):okK b d wr k=bif okW (HP.ov b d).get wr then k else .no:=by
 cases wr with
 |none=>rfl
 |some p =>show bC (BU (hG (.ov b d) p.1)) .no k=_;rw[zx,mI];simp only[okW];cases BU ((HP.ov b d).get p.1) <;> rfl
def ag1 (al:Bool)(d:DM)(r:Pos)(k:DM→RX):clK al d r k=k (eF al d r):=by
 cases al with
 |false=>rfl
 |true=>exact oJ _ _ _ _
def afH (al:Bool)(r:Pos)(k:Pos→RX):sPi al r k=k (cN al r):=by
 cases al with
 |false=>rfl
 |true=>exact wX _ _
def ad7 (k:K)(args:List Src)(f:Option Pos)(al:Bool):agV ⟨k,args,f,none⟩ al (dN k) (λe=>aV e args) (λv e=>aX e f v)=vO (.op ⟨k,args,f,none⟩ al):=by
 funext ck b l e d r n K;simp[agV,vO,ag1,Ej,agb,Aq,afH,bg];have g:=@AM ⟨k,args,f,none⟩ al b e d r;simp[bg]at g;cases j:(dN k (aV e args) r).run (HP.ov b (eF al d r)).get with
 |none=>rfl
 |some p =>obtain⟨out,wr⟩:=p;simp only;rw[g j]
def aaC (o:FO)(al:Bool):aaD o al=vO (.op o al):=by
 funext ck b g e d r n K;simp[aaD,vO];cases f:stepF e (HP.ov b (eF al d r)).get r o with
 |none=>rfl
 |some p =>obtain⟨out,wr⟩:=p;simp only;rw[AM f]
def IW (ck:Callk)(b:HP)(j:List Pos)(t:Tgt)(g:List TV)(d:DM)(n:Pos)(k:Inf→TV→DM→Pos→RX):Lc ck b j t g d n k=match ck.call (.ov b d) t g .leaf n with
  |.ok out f l=>bif rR f j then k (.call (.ov b d) f) out (lT f d) l else .no
  |.no=>.no:=by
 unfold Lc RCx;cases ck.call (.ov b d) t g .leaf n with
 |no=>rfl
 |ok out f l=>exact mI _ _ _
def aaJ (args:List Src)(g:Option Pos):dC1 args g = .mk (vO (.call args g none)):=by
 unfold dC1;split
 ·rfl
 next x l=>
  rw[vU,Jw,zM];show BD1.mk _=_;congr 1;funext ck b C e d r n K;simp[afe,vO,gd,aV];generalize bo e x=v;obtain _|p|m:=v
  ·rfl
  ·obtain c|m:=p
   ·cases c with
    |fnc f=>simp[asC,cI];exact IW _ _ _ _ _ _ _ _
    |clo q=>
     simp[asC,aaI];cases cI (HP.ov b d).get (.pv (.one (.clo q))::aV e l)with
     |none=>rfl
     |some p =>obtain⟨t,j⟩:=p;exact IW _ _ _ _ _ _ _ _
    |_=>rfl
   ·rfl
  ·rfl
def agW (args:List Src)(f:Option Pos)(p:Pos)(w:Bool):dGd (λe=>PM.get .unk e p) w (λv e=>aX e f v) (vO (.call args f none))=vO (.call args f (some (p,w))):=by
 funext ck b g e d r n K;have j:vO (.call args f (some (p,w))) ck b g e d r n K=match (match e.get .unk p with
   |.pv (.one (.bl b))=>some (match w with|true=>b|false=>!b)
   |.tup _=>some false
   |_=>none)with
   |some true=>vO (.call args f none) ck b g e d r n K
   |some false=>K (.op none [] true .fail .unk) (aX e f (.tup [])) d r n
   |none=>.no:=rfl
 rw[j];simp[dGd];generalize PM.get .unk e p=v;obtain _|q|l:=v
 ·rfl
 ·obtain c|l:=q
  ·cases c with
   |bl t =>simp[mI];cases w <;> cases t <;> rfl
   |_=>rfl
  ·rfl
 ·rfl
def agU (o:OP):dO1 o = .mk (vO o):=by
 cases o with
 |op o al=>
  obtain⟨k,args,f,g⟩:=o;simp[dO1];split
  next hp=>rw[aa3,SU];show BD1.mk _=_;rw[aaE hp]
  ·split
   ·rw[aat,Jw,zM];show BD1.mk _=_;rw[ad7]
   ·rw[aaC]
 |call args f g=>
  simp[dO1];split
  ·exact aaJ args f
  next p w=>rw[aaJ,Oq,zM];show BD1.mk _=_;rw[agW]
 |nxt x f=>rfl
 |bad=>rfl
def U7 (ck:Callk)(b:HP)(f:List Pos)(o:OP)(l:List OP)(e:Env)(d:DM)(r n:Pos)(k:List Inf→Env→DM→Pos→RX) :
  (match mK ck b f (o::l) e d r n with|.ok l e d n=>k l e d n|.no=>RX.no)=vO o ck b f e d r n λi e d r n=>match mK ck b f l e d r n with|.ok l e d n=>k (i::l) e d n|.no=>RX.no:=by
 have j:∀(i:Inf) (t:RT'),(match zP i t with|.ok l e d n=>k l e d n|.no=>RX.no)=match t with|.ok l e d n=>k (i::l) e d n|.no=>RX.no:=λi t=>by cases t <;> rfl
 cases o with
 |op o al=>
  simp[mK,vO];cases stepF e (HP.ov b (eF al d r)).get r o with
  |none=>rfl
  |some p=>
   obtain⟨out,wr⟩:=p;simp only;cases okW (HP.ov b (eF al d r)).get wr with
   |false=>rfl
   |true=>simp;exact j _ _
 |call args J g=>
  simp[mK,vO];cases gd e g with
  |none=>rfl
  |some t=>
   cases t with
   |false=>exact j _ _
   |true=>
    simp only;cases cI (HP.ov b d).get (aV e args)with
    |none=>rfl
    |some p=>
     obtain⟨t,C⟩:=p;simp only;cases ck.call (.ov b d) t C .leaf n with
     |no=>rfl
     |ok out P R=>
      simp only;cases rR P f with
      |false=>rfl
      |true=>simp;exact j _ _
 |_=>rfl
def aaG:∀l:List OP,dOs l = .mk (λck b j e d r n k=>match mK ck b j l e d r n with|.ok l e d n=>k l e d n|.no=>.no)
 |[]=>rfl
 |o::l=>by show BD1.rec (motive:=λ_=>BD) (λf=>BD.rec (motive:=λ_=>BD) (λg=>.mk λck b j e d r n k=>f ck b j e d r n λi e d r n=>g ck b j e d r n λl e d n=>k (i::l) e d n) (dOs l)) (dO1 o)=_;rw[agU,aaG l];show BD.mk _=_;congr 1;funext ck b j e d r n k;exact(U7 ck b j o l e d r n k).symm
def pn (b:HP):∀(f:List OP) (d:DM) (n:Pos) (k:List Pos→DM→Pos→RX),Ys (alN f) b d n k=match rP b f d n with
  |some (l,j,g)=>k l j g
  |none=>.no
 |[],_,_,_=>rfl
 |.op o true::r,d,n,k=>by
  show frK b d n (dSK n .res d λJ=>sPK n λC=>Ys (alN r) b J C λl j g=>k (n::l) j g)=_;rw[FG,oJ,wX,pn b r];simp[rP,bz];cases(HP.ov b d).get n with
  |none=>
   simp;cases rP b r (fE d n .res) n.succ with
   |none=>rfl
   |some p=>rfl
  |_=>rfl
 |.op o false::r,d,n,k=>pn b r d n k
 |.call _ _ _::r,d,n,k=>pn b r d n k
 |.nxt _ _::r,d,n,k=>pn b r d n k
 |.bad::r,d,n,k=>pn b r d n k
def SX (l:List Inf)(k:RX):∀ps:List (Nat×Nat),afN l ps k=bif dC l ps then k else .no
 |[]=>rfl
 |p::r=>by show bC (fB l p) (afN l r k) .no=_;rw[SX l k r,mI];simp[dC];cases fB l p <;> rfl
def HM {ck:Callk}{b:HP}{rs:List Pos}:∀(p:List OP) {e:Env} {d:DM} {r n:Pos} {l:List Inf} {T:Env} {U:DM} {R:Pos},mK ck b rs p e d r n = .ok l T U R→∀i,Em p i=true→∃tr fr q out,nth l i=some (.op none tr fr q out)
 |[],e,d,r,n,l,T,U,R,h,i,hi=>by cases i <;> cases hi
 |o::p,e,d,r,n,l,T,U,R,h,i,hi=>by
  have key:∃j e1 d1 r1 n1 f,l=j::f∧mK ck b rs p e1 d1 r1 n1 = .ok f T U R∧(HZ o=true→∃tr fr q out,j = .op none tr fr q out):=by
   have cons:∀(j:Inf) (t:RT'),zP j t = .ok l T U R→∃f,l=j::f∧t = .ok f T U R:=λj t ht=>by
    cases t with
    |no=>cases ht
    |ok f e1 d1 n1 =>simp only[zP]at ht;injection ht with P C h3 h4;subst P;subst C;subst h3;subst h4;exact⟨f,rfl,rfl⟩
   cases o with
   |op o al=>
    simp[mK]at h;split at h
    ·rename_i out wr hs;rw[n?]at h;split at h
     ·obtain⟨f,P,C⟩:=cons _ _ h;refine⟨_,_,_,_,_,f,P,C,λJ=>?_⟩;obtain⟨rfl,J⟩:=yv J;have:=Au J hs;subst this;exact⟨_,_,_,_,rfl⟩
     ·cases h
    ·cases h
   |call args dst g=>
    simp[mK]at h;split at h
    ·split at h
     ·split at h
      ·rw[n?]at h;split at h
       ·obtain⟨f,P,C⟩:=cons _ _ h;exact⟨_,_,_,_,_,f,P,C,λJ=>by cases J⟩
       ·cases h
      ·cases h
     ·cases h
    ·obtain⟨f,P,C⟩:=cons _ _ h;exact⟨_,_,_,_,_,f,P,C,λJ=>by cases J⟩
    ·cases h
   |nxt x dst=>cases h
   |bad=>cases h
  obtain⟨j,e1,d1,r1,n1,f,rfl,C,h3⟩:=key;cases i with
  |zero =>obtain⟨tr,fr,q,out,rfl⟩:=h3 hi;exact⟨tr,fr,q,out,rfl⟩
  |succ i=>exact HM p C i hi
def RJ {f:List OP}{l:List Inf}(h:∀i,Em f i=true→∃g j q out,nth l i=some (.op none g j q out)):∀ps:List (Nat×Nat),dC l (RK f ps)=dC l ps
 |[]=>rfl
 |p::r=>by
  simp[RK];split
  next h1 h2=>
   rw[RJ h r];obtain⟨R,f1,q1,U,J⟩:=h _ h1;obtain⟨P,f2,q2,T,C⟩:=h _ h2;have:fB l p=true:=by
    simp only[fB,J,C,dI,Bh,Lx];rfl
   simp[dC,this]
  ·simp[dC,RJ h r]
def Pu {ck:Callk}{b:HP}:∀(f:List OP),Sk f=true→∀(e:Env) (d:DM) (n m:Pos),(∃l j,mK ck b [] f e d n m = .ok l j d m∧aQ ck b f e d n = .ok j d n∧∀i,i<f.length→∃P U q out,nth l i=some (.op none P U q out))∨(mK ck b [] f e d n m = .no∧aQ ck b f e d n = .no)
 |[],_,e,d,n,m=>.inl ⟨[],e,rfl,rfl,λi r=>by cases r⟩
 |o::f,h,e,d,n,m=>by
  simp[Sk]at h;split at h
  next g=>
   cases o with
   |op o al=>
    obtain⟨rfl,g⟩:=yv g;simp only[mK,aQ,bz,O',eF];cases R:stepF e (HP.ov b d).get n o with
    |none=>exact .inr ⟨rfl,rfl⟩
    |some p=>
     obtain⟨out,wr⟩:=p;have:=Au g R;subst this;simp only[okW,O',setW,cN];rcases Pu f h (aX e o.dst out) d n m with⟨l,j,J,C,T⟩|⟨J,C⟩
     ·refine .inl ⟨_,j,by rw[J];rfl,C,λi r=>?_⟩;cases i with
      |zero=>exact⟨_,_,_,_,rfl⟩
      |succ i=>exact T i (by simpa using r)
     ·exact .inr ⟨by rw[J];rfl,C⟩
   |_=>cases g
  ·cases h
def Jd (b:HP):∀(f:List OP),Sk f=true→∀(d:DM) (n:Pos),rP b f d n=some ([],d,n)
 |[],_,_,_=>rfl
 |o::f,h,d,n=>by
  simp[Sk]at h;split at h
  next g=>
   cases o with
   |op o al =>obtain⟨rfl,g⟩:=yv g;exact Jd b f h d n
   |_=>cases g
  ·cases h
def ST (g:List OP)(f:OpC)(j:cOs g = .mk f)(l:Nat)(ck:Callk)(b:HP)(e:Env)(d:DM)(n:Pos)(k:Kx):Na f ck l b e d n k=bX (exec ck l (.region g) b e d n) k:=by rw[aa2]at j;cases j;simp[Na,exec];cases aQ ck b g e d n <;> rfl
def ad8 (f:List OP)(ps:List (Nat×Nat))(g:ahr)(j:dOs f = .mk g)(r:Nat)(ck:Callk)(b:HP)(e:Env)(d:DM)(n:Pos)(k:Kx):drF (alN f) (RK f ps) g ck r b e d n k=bX (exec ck r (.drawn f ps) b e d n) k:=by
 rw[aaG]at j;cases j;simp[drF,pn,exec,SX];cases rP b f d n with
 |none=>rfl
 |some p=>
  obtain⟨C,R,J⟩:=p;simp only;cases P:mK ck b C f e R n J with
  |no=>rfl
  |ok l U d' T =>simp only;rw[RJ (HM f P)];cases dC l ps <;> rfl
def H6 {l:List Inf}{m:Nat}(h:∀i,i<m→∃f g q out,nth l i=some (.op none f g q out)):∀ps:List (Nat×Nat),acu m ps=true→dC l ps=true
 |[],_=>rfl
 |p::r,hp=>by
  simp only[acu,y?,ι]at hp;obtain⟨P,f1,q1,T,C⟩:=h _ (cg.1 hp.1.1);obtain⟨J,U,q2,R,j⟩:=h _ (cg.1 hp.1.2);have:fB l p=true:=by simp only[fB,C,j,dI,Bh,Lx];rfl
  simp[dC,this];exact H6 h r hp.2
def ad9 (g:List OP)(ps:List (Nat×Nat))(r:Sk g=true)(J:acu g.length ps=true)(f:OpC)(P:cOs g = .mk f)(C:Nat)(ck:Callk)(b:HP)(e:Env)(d:DM)(n:Pos)(k:Kx):Na f ck C b e d n k=bX (exec ck C (.drawn g ps) b e d n) k:=by
 rw[ST g f P];simp[exec,Jd b g r];rcases Pu (ck:=ck) (b:=b) g r e d n n with⟨l,T,p,j,R⟩|⟨p,j⟩
 ·rw[p,j];simp[H6 R ps J]
 ·rw[p,j]
def ahy (x:BO):∃f,x = .mk f:=by cases x;exact⟨_,rfl⟩
def aic (x:BD):∃f,x = .mk f:=by cases x;exact⟨_,rfl⟩
def agX (j:List OP)(ps:List (Nat×Nat)):dFc j ps = .mk (λck l b e d n k=>bX (exec ck l (.drawn j ps) b e d n) k):=by
 unfold dFc;split
 next ha=>simp at ha;obtain⟨f,r⟩:=ahy (cOs j);rw[r];show BC.mk (Na f)=_;congr 1;funext ck l b e d n k;exact ad9 j ps ha.1 ha.2 f r l ck b e d n k
 ·obtain⟨g,p⟩:=aic (dOs j);rw[p];show BC.mk (drF (alN j) (RK j ps) g)=_;congr 1;funext ck l b e d n k;exact ad8 j ps g p l ck b e d n k
def NS (f:Clo)(ck:Callk)(g:Nat)(b:HP)(r:Env→DM→Pos→RX)(j:∀e d n k,f ck g b e d n k=bX (r e d n) k)(k:Kx):∀(m:Nat) (e:Env) (d:DM) (n:Pos),
  (Nat.rec (motive:=λ_=>Env→DM→Pos→RX) (λ_ _ _=>.no) (λ_ p e d n=>f ck g b e d n λx e d n=>Ex.rec (motive:=λ_=>RX) (p e d n) (λid=>k (.exit id) e d n) (k .ret e d n) x) m:Env→DM→Pos→RX) e d n=bX (pD r m e d n) k
 |0,_,_,_=>rfl
 |m+1,e,d,n=>by
  show f ck g b e d n _=_;rw[j];simp[pD];cases r e d n with
  |no=>rfl
  |ok x C J l=>
   cases x with
   |normal=>exact NS f ck g b r j k m C J l
   |exit id=>rfl
   |ret=>rfl
def FT:∀c:FC,fc c = .mk (λck g b e d n k=>bX (exec ck g c b e d n) k)
 |.skip=>rfl
 |.region j=>by obtain⟨f,C⟩:=ahy (cOs j);show BO.rec (motive:=λ_=>BC) (λf=>.mk (Na f)) (cOs j)=_;rw[C];show BC.mk (Na f)=_;congr 1;funext ck g b e d n k;exact ST j f C g ck b e d n k
 |.drawn j ps=>agX j ps
 |.seq x y=>by
  show c2 afG (fc x) (fc y)=_;rw[FT x,FT y];show BC.mk _=_;congr 1;funext ck g b e d n k;simp[afG,exec];cases exec ck g x b e d n with
  |no=>rfl
  |ok r P R J=>cases r <;> rfl
 |.cond c x y=>by
  show BG.rec (motive:=λ_=>BC) (λc=>c2 (aaL c) (fc x) (fc y)) (vB c)=_;rw[FT x,FT y,vU];show BC.mk _=_;congr 1;funext ck g b e d n k;simp[aaL,exec,mI];generalize bo e c=v;obtain _|p|l:=v
  ·rfl
  ·obtain c|l:=p
   ·cases c with
    |bl t=>cases t <;> rfl
    |_=>rfl
   ·rfl
  ·rfl
 |.block id x=>by
  show c1 (Sd id) (fc x)=_;rw[FT x];show BC.mk _=_;congr 1;funext ck g b e d n k;simp[Sd,exec];cases exec ck g x b e d n with
  |no=>rfl
  |ok r P R J=>
   cases r with
   |normal=>rfl
   |ret=>rfl
   |exit i =>show bC (Nat.beq i id) _ _=_;rw[mI];simp only;cases Nat.beq i id <;> rfl
 |.loop x=>by show c1 ae5 (fc x)=_;rw[FT x];show BC.mk _=_;congr 1;funext ck g b e d n k;exact NS (λck g b e d n k=>bX (exec ck g x b e d n) k) ck g b (exec ck g x b) (λ_ _ _ _=>rfl) k g e d n
 |.rloop _ _ _ _ _=>rfl
 |.rng _ _ _ _=>rfl
 |.exit _=>rfl
 |.ret=>rfl
 |.bad=>rfl
def YY:∀(l:List TV) (e:Env) (p:Pos),ofA l e p=ow l p e
 |[],_,_=>rfl
 |a::l,e,p=>by show ofA l (BS.rec (motive:=λ_=>Env) (λs=>s a e) (sB p)) (sP p)=_;rw[YY l,SM,aeX];rfl
def ah0 (r:RX):bX r (λx e d n=>.ok x e d n)=r:=by cases r <;> rfl
def Q5 (l:Tb)(p:FuncId→Option Fi)(g:Nat):∀r:Nat,mkR l p g r=mkT l p g r
 |0=>by funext C b t args d n;cases t <;> rfl
 |r+1=>by
  funext C b t args d n;cases t with
  |yld j=>rfl
  |fn f=>
   show RC.rec (motive:=λ_=>RC) (FJ.rec (motive:=λ_=>RC) .no (λc res J=>Bool.rec (motive:=λ_=>RC) .no (Vb b res (c (Hd (mkR l p g r) C) g b (ofA args .leaf .e) d n λx e d n=>.ok x e d n)) (Nat.ble (lnT args) J)) (fj p f)) (λv d n=>.ok v d n) (l f b args d n)=_;rw[Q5 l p g r];simp[mkT,Zg,YY];cases l f b args d n with
   |ok v d n=>rfl
   |no=>
    simp[Kj,fj];cases p f with
    |none=>rfl
    |some x =>simp only;rw[FT];simp[ah0];cases Nat.ble args.length x.nt <;> rfl
