/- Closed runs. -/
import Derived.Test.YtfgpipfjalmooaaGreatCloI
set_option linter.all false
noncomputable section
namespace Go.Proofs.YtfgpipfjalmooaaGreat
namespace Clo
open Go Go.RowKit
abbrev Kx:=Ex→Env→DM→Pos→RX
abbrev Ko:=Env→DM→Pos→RX
abbrev Clo:=Callk→Nat→HP→Env→DM→Pos→Kx→RX
abbrev OpC:=Callk→HP→Env→DM→Pos→Ko→RX
abbrev Gt:=Env→TV
abbrev St':=TV→Env→Env
inductive BG|mk (g:Gt)
inductive BS|mk (s:St')
inductive BL|mk (g:Env→List TV)
inductive BE|mk (f:List TV→Pos→Q)
inductive BO|mk (f:OpC)
inductive BC|mk (f:Clo)
abbrev aiu:=Callk→HP→List Pos→Env→DM→Pos→Pos→(List Inf→Env→DM→Pos→RX)→RX
abbrev DOp:=Callk→HP→List Pos→Env→DM→Pos→Pos→(Inf→Env→DM→Pos→Pos→RX)→RX
inductive BD|mk (f:aiu)
inductive BD1|mk (f:DOp)
def lf (t:Env):Env:=PM.rec (motive:=λ_=>Env) .leaf (λl _ _ _ _=>l) t
def rt (t:Env):Env:=PM.rec (motive:=λ_=>Env) .leaf (λ_ _ r _ _=>r) t
def vl (t:Env):TV:=PM.rec (motive:=λ_=>TV) .unk (λ_ a _ _ _=>a) t
def gB (p:Pos):BG:=Pos.rec (motive:=λ_=>BG) (.mk vl) (λ_ f=>BG.rec (motive:=λ_=>BG) (λg=>.mk λt=>g (lf t)) f) (λ_ f=>BG.rec (motive:=λ_=>BG) (λg=>.mk λt=>g (rt t)) f) p
def sB (p:Pos):BS:=Pos.rec (motive:=λ_=>BS) (.mk λx t=>PM.rec (motive:=λ_=>Env) (.node .leaf x .leaf) (λl _ r _ _=>.node l x r) t)
 (λ_ f=>BS.rec (motive:=λ_=>BS) (λs=>.mk λx t=>PM.rec (motive:=λ_=>Env) (.node (s x .leaf) .unk .leaf) (λl a r _ _=>.node (s x l) a r) t) f)
 (λ_ f=>BS.rec (motive:=λ_=>BS) (λs=>.mk λx t=>PM.rec (motive:=λ_=>Env) (.node .leaf .unk (s x .leaf)) (λl a r _ _=>.node l a (s x r)) t) f) p
def vB (s:Src):BG:=Src.rec (motive:=λ_=>BG) (λp=>gB p) (λv=>.mk λ_=>v) s
def dB (d:Option Pos):BS:=Option.rec (motive:=λ_=>BS) (.mk (λ_ e=>e)) (λp=>sB p) d
def vsB (l:List Src):BL:=List.rec (motive:=λ_=>BL) (.mk (λ_=>[])) (λs _ f=>BG.rec (motive:=λ_=>BL) (λg=>BL.rec (motive:=λ_=>BL) (λh=>.mk λe=>g e::h e) f) (vB s)) l
def dlf (t:DM):DM:=PM.rec (motive:=λ_=>DM) .leaf (λl _ _ _ _=>l) t
def drt (t:DM):DM:=PM.rec (motive:=λ_=>DM) .leaf (λ_ _ r _ _=>r) t
def dvl (t:DM):Option EO:=PM.rec (motive:=λ_=>Option EO) none (λ_ a _ _ _=>a) t
def dG (k:Pos):DM→Option EO:=Pos.rec (motive:=λ_=>DM→Option EO) dvl (λ_ f t=>f (dlf t)) (λ_ f t=>f (drt t)) k
def dSK (k:Pos)(o:EO):DM→(DM→RX)→RX:=Pos.rec (motive:=λ_=>DM→(DM→RX)→RX) (λt K=>PM.rec (motive:=λ_=>RX) (K (.node .leaf (some o) .leaf)) (λl _ r _ _=>K (.node l (some o) r)) t)
 (λ_ f t K=>PM.rec (motive:=λ_=>RX) (f .leaf λl=>K (.node l none .leaf)) (λl a r _ _=>f l λl=>K (.node l a r)) t)
 (λ_ f t K=>PM.rec (motive:=λ_=>RX) (f .leaf λr=>K (.node .leaf none r)) (λl a r _ _=>f r λr=>K (.node l a r)) t) k
def sPK (p:Pos):(Pos→RX)→RX:=Pos.rec (motive:=λ_=>(Pos→RX)→RX) (λK=>K (.o .e)) (λp _ K=>K (.i p)) (λ_ f K=>f λq=>K (.o q)) p
def pN (p:Pos):Nat:=Pos.rec (motive:=λ_=>Nat) 0 (λ_ f=>Nat.add (Nat.mul 2 f) 1) (λ_ f=>Nat.add (Nat.mul 2 f) 2) p
def sP (p:Pos):Pos:=Pos.rec (motive:=λ_=>Pos) (.o .e) (λp _=>.i p) (λ_ f=>.o f) p
def hG (b:HP):Pos→EO:=HP.rec (motive:=λ_=>Pos→EO) (λ_=>.none) (λ_ d f k=>Option.rec (motive:=λ_=>EO) (f k) (λo=>o) (dG k d)) (λ_ n f k=>Bool.rec (motive:=λ_=>EO) .none (f k) (Nat.blt (pN k) (pN n))) b
def bX (r:RX)(k:Kx):RX:=RX.rec (motive:=λ_=>RX) .no k r
def bC (t:Bool)(a b:RX):RX:=Bool.rec (motive:=λ_=>RX) b a t
def frK (b:HP)(d:DM)(n:Pos)(k:RX):RX:=EO.rec (motive:=λ_=>RX) k (λ_ _ _ _ _ _=>.no) (λ_ _=>.no) (λ_ _ _ _=>.no) (λ_ _ _ _=>.no) (λ_ _=>.no) (λ_ _ _=>.no) (λ_ _=>.no) .no .no .no .no (hG (.ov b d) n)
def roK (o:EO)(k:Nat→PT Ch→Nat→Nat→RX):RX:=EO.rec (motive:=λ_=>RX) .no (λ_ s g len f _=>k s g len f) (λ_ _=>.no) (λ_ _ _ _=>.no) (λ_ _ _ _=>.no) (λ_ _=>.no) (λ_ _ _=>.no) (λ_ _=>.no) .no .no .no .no o
def asP (v:TV)(k:PV→RX):RX:=TV.rec (motive:=λ_=>RX) .no k (λ_=>.no) v
def asC (v:TV)(k:CV→RX):RX:=TV.rec (motive:=λ_=>RX) .no (λp=>PV.rec (motive:=λ_=>RX) k (λ_=>.no) p) (λ_=>.no) v
def asB (v:TV)(k:Bool→RX):RX:=asC v λc=>CV.rec (motive:=λ_=>RX) k (λ_ _=>.no) (λ_=>.no) .no (λ_ _ _=>.no) (λ_=>.no) .no (λ_ _ _ _ _=>.no) (λ_=>.no) .no (λ_=>.no) .no (λ_=>.no) (λ_=>.no) .no (λ_=>.no) (λ_=>.no) c
def asI (v:TV)(k:IntKind→Int→RX)(z:RX):RX:=asC v λc=>CV.rec (motive:=λ_=>RX) (λ_=>z) k (λ_=>z) z (λ_ _ _=>z) (λ_=>z) z (λ_ _ _ _ _=>z) (λ_=>z) z (λ_=>z) z (λ_=>z) (λ_=>z) z (λ_=>z) (λ_=>z) c
def asS (v:TV)(k:List Nat→RX):RX:=asC v λc=>CV.rec (motive:=λ_=>RX) (λ_=>.no) (λ_ _=>.no) k .no (λ_ _ _=>.no) (λ_=>.no) .no (λ_ _ _ _ _=>.no) (λ_=>.no) .no (λ_=>.no) .no (λ_=>.no) (λ_=>.no) .no (λ_=>.no) (λ_=>.no) c
def asR (v:TV)(k:Pos→Nat→Nat→RX):RX:=asC v λc=>CV.rec (motive:=λ_=>RX) (λ_=>.no) (λ_ _=>.no) (λ_=>.no) .no k (λ_=>.no) .no (λ_ _ _ _ _=>.no) (λ_=>.no) .no (λ_=>.no) .no (λ_=>.no) (λ_=>.no) .no (λ_=>.no) (λ_=>.no) c
def asL (v:TV)(k:Pos→Nat→Nat→Nat→RX):RX:=asC v λc=>CV.rec (motive:=λ_=>RX) (λ_=>.no) (λ_ _=>.no) (λ_=>.no) .no (λ_ _ _=>.no) (λ_=>.no) .no (λp g o n _=>k p g o n) (λ_=>.no) .no (λ_=>.no) .no (λ_=>.no) (λ_=>.no) .no (λ_=>.no) (λ_=>.no) c
def nI (n:Int)(k:Int→RX):RX:=Int.rec (motive:=λ_=>RX) (λm=>Nat.rec (motive:=λ_=>RX) (k (.ofNat 0)) (λm _=>k (.ofNat (Nat.succ m))) m) (λm=>Nat.rec (motive:=λ_=>RX) (k (.negSucc 0)) (λm _=>k (.negSucc (Nat.succ m))) m) n
def nN (n:Nat)(k:Nat→RX):RX:=Nat.rec (motive:=λ_=>RX) (k 0) (λm _=>k (Nat.succ m)) n
def i2 (a b:Int)(f:Nat→Nat→RX)(z:RX):RX:=Int.rec (motive:=λ_=>RX) (λa=>Int.rec (motive:=λ_=>RX) (λb=>f a b) (λ_=>z) b) (λ_=>z) a
def oI (k:IntKind)(n:Int):TV :=.pv (.one (.int k n))
def oB (b:Bool):TV :=.pv (.one (.bl b))
def sWK (wr:Option (Pos×EO))(d:DM)(k:DM→RX):RX:=Option.rec (motive:=λ_=>RX) (k d) (λp=>dSK p.1 p.2 d k) wr
def qK (b:HP)(d:DM)(q:Q)(k:TV→Option (Pos×EO)→RX):RX:=Q.rec (motive:=λ_=>RX) .no k (λp _ f=>f (hG (.ov b d) p)) q
def bZ (o:FO)(f:Bool):OpC:=λ_ b e d n k=>bif bz f (HP.ov b d).get n then(match stepF e (HP.ov b d).get n o with
 |some (out,wr)=>k (aW e o.dst out) (ul d wr) (cL f n)
 |none=>.no)else .no
def WM (f:List TV→Pos→Q)(j:Env→List TV)(g:St'):OpC:=λ_ b e d n k=>qK b d (f (j e) n) λout wr=>sWK wr d λd=>k (g out e) d n
def WL (f:List TV→Pos→Q)(j:Env→List TV)(g:St'):OpC:=λ_ b e d n k=>frK b d n (qK b d (f (j e) n) (λout wr=>sWK wr d λd=>sPK n λn=>k (g out e) d n))
def ai0 (x:Gt)(f:St'):OpC:=λ_ _ e d n k=>k (f (x e) e) d n
def ac7 (c x y:Gt)(f:St'):OpC:=λ_ _ e d n k=>asB (c e) λt=>bC t (k (f (x e) e) d n) (k (f (y e) e) d n)
def aid (x:Gt)(f:St'):OpC:=λ_ _ e d n k=>asB (x e) λt=>bC t (k (f (oB false) e) d n) (k (f (oB true) e) d n)
def Rz (f:Int→Int→Bool)(fn:Nat→Nat→Bool)(op:BinOp)(x y:Gt)(g:St'):OpC:=λ_ b e d n k=>
 asI (x e) (λp a=>asI (y e) (λl j=>bC (kq p l) (i2 a j (λa j=>bC (fn a j) (k (g (oB true) e) d n) (k (g (oB false) e) d n)) (bC (f a j) (k (g (oB true) e) d n) (k (g (oB false) e) d n))) .no) .no)
  (qK b d (tQ op [x e,y e] n) λout wr=>sWK wr d λd=>k (g out e) d n)
def T7 (k:IntKind):Bool:=IntKind.rec (motive:=λ_=>Bool) false false false true false false false false k
def aim (x y:Gt)(f:St'):OpC:=λ_ b e d n k=>
 asI (x e) (λg a=>asI (y e) (λp j=>bC (kq g p) (i2 a j (λC l=>bC (T7 g) (nN (Nat.add C l) λs=>bC (Nat.blt s 9223372036854775808) (k (f (oI g (.ofNat s)) e) d n) (nI (g.wrap (a+j)) λr=>k (f (oI g r) e) d n)) (nI (g.wrap (a+j)) λr=>k (f (oI g r) e) d n)) (nI (g.wrap (a+j)) λr=>k (f (oI g r) e) d n)) .no) .no)
  (qK b d (tQ .add [x e,y e] n) λout wr=>sWK wr d λd=>k (f out e) d n)
def aic (x y:Gt)(f:St'):OpC:=λ_ b e d n k=>
 asI (x e) (λg a=>asI (y e) (λC l=>bC (kq g C) (i2 a l (λp j=>bC (Nat.ble j p) (bC (T7 g) (bC (Nat.blt p 9223372036854775808) (nN (Nat.sub p j) λs=>k (f (oI g (.ofNat s)) e) d n) (nI (g.wrap (a-l)) λr=>k (f (oI g r) e) d n)) (nI (g.wrap (a-l)) λr=>k (f (oI g r) e) d n)) (nI (g.wrap (a-l)) λr=>k (f (oI g r) e) d n)) (nI (g.wrap (a-l)) λr=>k (f (oI g r) e) d n)) .no) .no)
  (qK b d (tQ .sub [x e,y e] n) λout wr=>sWK wr d λd=>k (f out e) d n)
def aeW (l:List Nat):Nat→(Nat→RX)→RX:=List.rec (motive:=λ_=>Nat→(Nat→RX)→RX) (λ_ _=>.no) (λa _ f i k=>Nat.rec (motive:=λ_=>RX) (k a) (λi _=>f i k) i) l
def adi (x y:Gt)(f:St'):OpC:=λ_ _ e d n k=>asS (x e) λs=>asI (y e) (λ_ i=>Int.rec (motive:=λ_=>RX) (λi=>aeW s i λc=>nN c λc=>k (f (oI .u8 (.ofNat c)) e) d n) (λ_=>.no) i) .no
def lnN (l:List Nat):Nat:=List.rec (motive:=λ_=>Nat) 0 (λ_ _ f=>Nat.add f 1) l
def lnC (l:List CV):Nat:=List.rec (motive:=λ_=>Nat) 0 (λ_ _ f=>Nat.add f 1) l
def adb (x:Gt)(f:St'):OpC:=λ_ _ e d n k=>asS (x e) λs=>nN (lnN s) λr=>k (f (oI .i64 (.ofNat r)) e) d n
def ado (c:Nat)(x:Gt)(f:St'):OpC:=λ_ _ e d n k=>asR (x e) λp g o=>nN (Nat.add o c) λo=>k (f (.pv (.one (.ptr p g o))) e) d n
def adk (s:Nat)(x y:Gt)(f:St'):OpC:=λ_ _ e d n k=>asL (x e) λp g o len=>asI (y e) (λ_ i=>Int.rec (motive:=λ_=>RX) (λi=>bC (Nat.blt i len) (nN (Nat.add o (Nat.mul i s)) (λo=>k (f (.pv (.one (.ptr p g o))) e) d n)) .no) (λ_=>.no) i) .no
def ptG (t:PT Ch):Nat→Ch:=PT.rec (motive:=λ_=>Nat→Ch) (λ_=>dch) (λ_ a _ g f i=>Nat.rec (motive:=λ_=>Ch) a (λi _=>Bool.rec (motive:=λ_=>Ch) (f (Nat.div i 2)) (g (Nat.div i 2)) (Nat.beq (Nat.mod i 2) 0)) i) t
def drC (l:List CV):Nat→List CV:=List.rec (motive:=λ_=>Nat→List CV) (λ_=>[]) (λa l f n=>Nat.rec (motive:=λ_=>List CV) (a::l) (λn _=>f n) n) l
def tkC (l:List CV):Nat→List CV:=List.rec (motive:=λ_=>Nat→List CV) (λ_=>[]) (λa _ f n=>Nat.rec (motive:=λ_=>List CV) [] (λn _=>a::f n) n) l
def hdC (l:List CV)(k:CV→RX):RX:=List.rec (motive:=λ_=>RX) .no (λc _ _=>k c) l
def chK (c:Ch)(k:List CV→Nat→RX):RX:=Ch.rec (motive:=λ_=>RX) k c
def rdK (b:HP)(d:DM)(p:Pos)(g f m:Nat)(k:List CV→RX):RX:=roK (hG (.ov b d) p) λs r len j=>
 bC (Nat.ble g j) (bC (Nat.blt (Nat.div f s) len) (chK (ptG r (Nat.div f s)) λC l=>bC (Nat.ble l g) (bC (Nat.ble (Nat.add (Nat.mod f s) m) s) (k (drC C (Nat.mod f s))) .no) .no) .no) .no
def aig (x:Gt)(f:St'):OpC:=λ_ b e d n k=>asR (x e) λp g o=>rdK b d p g o 1 λl=>hdC l λc=>k (f (.pv (.one c)) e) d n
def aif (s:Nat)(x:Gt)(f:St'):OpC:=λ_ b e d n k=>asR (x e) λp g o=>rdK b d p g o s λl=>k (f (.pv (.agg (tkC l s))) e) d n
def clP (p:PV):List CV:=PV.rec (motive:=λ_=>List CV) (λc=>[c]) (λl=>l) p
def apC (l m:List CV):List CV:=List.rec (motive:=λ_=>List CV) m (λa _ f=>a::f) l
def spC (g:List CV)(f:Nat)(new:List CV):List CV:=apC (tkC g f) (apC new (drC g (Nat.add f (lnC new))))
def pgL (t:PT Ch):PT Ch:=PT.rec (motive:=λ_=>PT Ch) .leaf (λl _ _ _ _=>l) t
def pgR (t:PT Ch):PT Ch:=PT.rec (motive:=λ_=>PT Ch) .leaf (λ_ _ r _ _=>r) t
def pgV (t:PT Ch):Ch:=PT.rec (motive:=λ_=>Ch) dch (λ_ a _ _ _=>a) t
def ptS (f:Nat):PT Ch→Nat→Ch→PT Ch:=Nat.rec (motive:=λ_=>PT Ch→Nat→Ch→PT Ch) (λt _ _=>t) (λ_ g t i x=>Nat.rec (motive:=λ_=>PT Ch) (.node (pgL t) x (pgR t)) (λi _=>Bool.rec (motive:=λ_=>PT Ch) (.node (pgL t) (pgV t) (g (pgR t) (Nat.div i 2) x)) (.node (g (pgL t) (Nat.div i 2) x) (pgV t) (pgR t)) (Nat.beq (Nat.mod i 2) 0)) i) f
def fzK (fz:Fz)(k:RX):RX:=Fz.rec (motive:=λ_=>RX) k .no .no fz
def roW (o:EO)(k:TypeId→Nat→PT Ch→Nat→Nat→Fz→RX):RX:=EO.rec (motive:=λ_=>RX) .no k (λ_ _=>.no) (λ_ _ _ _=>.no) (λ_ _ _ _=>.no) (λ_ _=>.no) (λ_ _ _=>.no) (λ_ _=>.no) .no .no .no .no o
def UL (m:Nat)(x y:Gt)(l:St'):OpC:=λ_ b e d n k=>asR (x e) λp g f=>asP (y e) λv=>bC (Nat.beq (lnC (clP v)) m) (roW (hG (.ov b d) p) λt s r len j fz=>
 bC (Nat.beq g j) (bC (Nat.blt (Nat.div f s) len) (bC (Nat.ble (Nat.add (Nat.mod f s) m) s) (fzK fz (chK (ptG r (Nat.div f s)) λC _=>dSK p (.row t s (ptS 32 r (Nat.div f s) ⟨spC C (Nat.mod f s) (clP v),j⟩) len j fz) d λd=>k (l .unk e) d n)) .no) .no) .no) .no
def UO (t:TypeId)(g:List CV)(f:St'):OpC:=λ_ b e d n k=>frK b d n (dSK n (.row t g.length (.node .leaf ⟨g,0⟩ .leaf) 1 0 .no) d (λd=>sPK n λj=>k (f (.pv (.one (.ptr n 0 0))) e) d j))
def ail (t:TypeId)(s:Nat)(x:Gt)(f:St'):OpC:=λ_ b e d n k=>frK b d n (asP (x e) (λp=>bC (Nat.beq (lnC (clP p)) s) (dSK n (.row t s (.node .leaf ⟨clP p,0⟩ .leaf) 1 0 .no) d (λd=>sPK n λg=>k (f (.pv (.one (.ptr n 0 0))) e) d g)) .no))
def ade (x:Gt)(f:St'):OpC:=λ_ _ e d n k=>asC (x e) λc=>CV.rec (motive:=λ_=>RX) (λ_=>.no) (λ_ _=>.no) (λ_=>.no) .no (λ_ _ _=>.no) (λ_=>.no) (k (f (oI .i64 (.ofNat 0)) e) d n) (λ_ _ _ m _=>nN m λm=>k (f (oI .i64 (.ofNat m)) e) d n) (λ_=>k (f (oI .i64 (.ofNat 0)) e) d n) .no (λ_=>.no) .no (λ_=>.no) (λ_=>.no) .no (λ_=>.no) (λ_=>.no) c
def aie (x:Gt)(j:St'):OpC:=λ_ _ e d n k=>asC (x e) λc=>CV.rec (motive:=λ_=>RX) (λ_=>.no) (λ_ _=>.no) (λ_=>.no) .no (λp g o=>k (j (.pv (.one (.ptr p g o))) e) d n) (λg=>k (j (.pv (.one (.glob g))) e) d n) .no (λ_ _ _ _ _=>.no) (λ_=>.no) .no (λ_=>.no) .no (λf=>k (j (.pv (.one (.fnc f))) e) d n) (λ_=>.no) .no (λi=>k (j (.pv (.one (.ifc i))) e) d n) (λ_=>.no) c
def tuK (v:TV)(k:List PV→RX):RX:=TV.rec (motive:=λ_=>RX) .no (λ_=>.no) k v
def aeV (l:List PV):Nat→(PV→RX)→RX:=List.rec (motive:=λ_=>Nat→(PV→RX)→RX) (λ_ _=>.no) (λa _ f i k=>Nat.rec (motive:=λ_=>RX) (k a) (λi _=>f i k) i) l
def adq (i:Nat)(x:Gt)(f:St'):OpC:=λ_ _ e d n k=>tuK (x e) λl=>aeV l i λp=>k (f (.pv p) e) d n
def RCx (r:RC)(k:TV→DM→Pos→RX):RX:=RC.rec (motive:=λ_=>RX) .no k r
def ads (ck:Callk)(b:HP)(f:List TV)(d:DM)(n:Pos)(k:TV→DM→Pos→RX):RX:=match cI (HP.ov b d).get f with
 |some (t,f)=>RCx (ck.call b t f d n) k
 |none=>.no
def adt (x:Gt)(r:Env→List TV)(g:St'):OpC:=λck b e d n k=>asC (x e) λc=>CV.rec (motive:=λ_=>RX) (λ_=>.no) (λ_ _=>.no) (λ_=>.no) .no (λ_ _ _=>.no) (λ_=>.no) .no (λ_ _ _ _ _=>.no) (λ_=>.no) .no (λ_=>.no) .no (λf=>RCx (ck.call b (.fn f) (r e) d n) λv d n=>k (g v e) d n) (λp=>ads ck b (.pv (.one (.clo p))::r e) d n λv d n=>k (g v e) d n) .no (λ_=>.no) (λ_=>.no) c
def cGd (g:Gt)(w:Bool)(l:Bool)(j:St')(f:OpC):OpC:=λck b e d n k=>TV.rec (motive:=λ_=>RX) .no (λq=>PV.rec (motive:=λ_=>RX) (λc=>CV.rec (motive:=λ_=>RX) (λt=>bC (Bool.rec (motive:=λ_=>Bool) (Bool.rec (motive:=λ_=>Bool) true false t) t w) (f ck b e d n k) (Bool.rec (motive:=λ_=>RX) (k (j (.tup []) e) d n) (frK b d n (sPK n (λn=>k (j (.tup []) e) d n))) l)) (λ_ _=>.no) (λ_=>.no) .no (λ_ _ _=>.no) (λ_=>.no) .no (λ_ _ _ _ _=>.no) (λ_=>.no) .no (λ_=>.no) .no (λ_=>.no) (λ_=>.no) .no (λ_=>.no) (λ_=>.no) c) (λ_=>.no) q) (λ_=>Bool.rec (motive:=λ_=>RX) (k (j (.tup []) e) d n) (frK b d n (sPK n (λn=>k (j (.tup []) e) d n))) l) (g e)
def m1 (f:Gt→St'→OpC)(x:Src)(g:Option Pos):BO:=BG.rec (motive:=λ_=>BO) (λx=>BS.rec (motive:=λ_=>BO) (λd=>.mk (f x d)) (dB g)) (vB x)
def m2 (f:Gt→Gt→St'→OpC)(x y:Src)(g:Option Pos):BO:=BG.rec (motive:=λ_=>BO) (λx=>BG.rec (motive:=λ_=>BO) (λy=>BS.rec (motive:=λ_=>BO) (λd=>.mk (f x y d)) (dB g)) (vB y)) (vB x)
def m3 (f:Gt→Gt→Gt→St'→OpC)(x y z:Src)(g:Option Pos):BO:=BG.rec (motive:=λ_=>BO) (λx=>BG.rec (motive:=λ_=>BO) (λy=>BG.rec (motive:=λ_=>BO) (λz=>BS.rec (motive:=λ_=>BO) (λd=>.mk (f x y z d)) (dB g)) (vB z)) (vB y)) (vB x)
def mL (f:(Env→List TV)→St'→OpC)(l:List Src)(g:Option Pos):BO:=BL.rec (motive:=λ_=>BO) (λx=>BS.rec (motive:=λ_=>BO) (λd=>.mk (f x d)) (dB g)) (vsB l)
def eB:K→BE
 |.mov=>.mk (UB)
 |.pick=>.mk (Wt)
 |.alloc e f=>.mk (M6 e f)
 |.box e s=>.mk (acz e s)
 |.build f ps=>.mk (HL f ps)
 |.lit e s len f l=>.mk (afz e s len f l)
 |.load s agg=>.mk (HK s agg)
 |.store s=>.mk (CR s)
 |.nilchk=>.mk (Bz)
 |.bin op=>.mk (tQ op)
 |.eql neg q=>.mk (acy neg q)
 |.un op=>.mk (eUn op)
 |.cint k=>.mk (Q8 k)
 |.b2s=>.mk (afC)
 |.mkf fn nf=>.mk (afy fn nf)
 |.mkm=>.mk (afx)
 |.mks e s bytes f=>.mk (afw e s bytes f)
 |.subs j p=>.mk (Q3 j p)
 |.subl s j p mx=>.mk (Wq s j p mx)
 |.fadr d=>.mk (Q7 d)
 |.fld g s agg=>.mk (acx g s agg)
 |.idxl s=>.mk (KP s)
 |.idxa n s=>.mk (Q6 n s)
 |.idxs=>.mk (KO)
 |.look q z ok=>.mk (Q4 q z ok)
 |.put q=>.mk (afu q)
 |.ment q z=>.mk (Wv q z)
 |.mest=>.mk (Wu)
 |.rngm=>.mk (Ws)
 |.ext i=>.mk (Zc i)
 |.lens=>.mk (KM)
 |.lenl=>.mk (KN)
 |.lenm=>.mk (Q5)
 |.app e s bytes str=>.mk (afD e s bytes str)
 |.del q=>.mk (afB q)
 |.mx r=>.mk (eMx r)
 |.ent=>.mk (afA)
 |.p2u=>.mk (afv)
 |.u2p ok=>.mk (aft ok)
 |.usd=>.mk (acv)
 |.ust e ok=>.mk (afs e ok)
 |.ibs=>.mk (acw)
 |_=>.mk (λ_ _=>.fail)
def ab3 (k:K)(args:List Src)(g:Option Pos):BO:=BE.rec (motive:=λ_=>BO) (λf=>mL (WM f) args g) (eB k)
def ahP (k:K)(args:List Src)(g:Option Pos):BO:=BE.rec (motive:=λ_=>BO) (λf=>mL (WL f) args g) (eB k)
def cK0 (k:K)(args:List Src)(f:Option Pos):BO:=match k,args with
 |.mov,[x]=>m1 ai0 x f
 |.pick,[c,x,y]=>m3 ac7 c x y f
 |.idxs,[x,y]=>m2 adi x y f
 |.lens,[x]=>m1 adb x f
 |.lenl,[x]=>m1 ade x f
 |.fadr c,[x]=>m1 (ado c) x f
 |.store s,[x,y]=>m2 (UL s) x y f
 |.idxl s,[x,y]=>m2 (adk s) x y f
 |.load 1 false,[x]=>m1 aig x f
 |.load s true,[x]=>m1 (aif s) x f
 |.nilchk,[x]=>m1 aie x f
 |.ext i,[x]=>m1 (adq i) x f
 |.un .not,[x]=>m1 aid x f
 |.bin .eql,[x,y]=>m2 (Rz (λa b=>decide (a=b)) Nat.beq .eql) x y f
 |.bin .neq,[x,y]=>m2 (Rz (λa b=>!decide (a=b)) (λa b=>Bool.rec (motive:=λ_=>Bool) true false (Nat.beq a b)) .neq) x y f
 |.bin .lss,[x,y]=>m2 (Rz (λa b=>decide (a<b)) Nat.blt .lss) x y f
 |.bin .leq,[x,y]=>m2 (Rz (λa b=>decide (a≤b)) Nat.ble .leq) x y f
 |.bin .gtr,[x,y]=>m2 (Rz (λa b=>decide (a>b)) (λa b=>Nat.blt b a) .gtr) x y f
 |.bin .geq,[x,y]=>m2 (Rz (λa b=>decide (a≥b)) (λa b=>Nat.ble b a) .geq) x y f
 |.bin .add,[x,y]=>m2 aim x y f
 |.bin .sub,[x,y]=>m2 aic x y f
 |k,args=>ab3 k args f
def cK1 (k:K)(args:List Src)(f:Option Pos):BO:=match k,args with
 |.alloc t zs,[]=>BS.rec (motive:=λ_=>BO) (λd=>.mk (UO t zs d)) (dB f)
 |.box t s,[x]=>m1 (ail t s) x f
 |k,args=>ahP k args f
def cKa (k:K)(args:List Src)(f:Option Pos)(g:Bool):BO:=Bool.rec (motive:=λ_=>BO) (cK0 k args f) (cK1 k args f) g
def gdB (p:Pos)(w l:Bool)(j:Option Pos)(f:BO):BO:=BO.rec (motive:=λ_=>BO) (λf=>BG.rec (motive:=λ_=>BO) (λg=>BS.rec (motive:=λ_=>BO) (λd=>.mk (cGd g w l d f)) (dB j)) (gB p)) f
def cC1 (args:List Src)(f:Option Pos):BO:=match args with
 |[]=>.mk λ_ _ _ _ _ _=>.no
 |x::r=>BG.rec (motive:=λ_=>BO) (λx=>mL (adt x) r f) (vB x)
def aiC (o:OP):BO :=.mk λck b e d n k=>match aP ck b [o] e d n with
 |.ok e d n=>k e d n
 |.no=>.no
def cO1 (o:OP):BO:=match o with
 |.op ⟨k,args,f,g⟩ al=>(match g with
  |none=>cKa k args f al
  |some (p,w)=>gdB p w al f (cKa k args f al))
 |.call args f g=>(match g with
  |none=>cC1 args f
  |some (p,w)=>gdB p w false f (cC1 args f))
 |o=>aiC o
def cOs:List OP→BO
 |[]=>.mk λ_ _ e d n k=>k e d n
 |o::r=>BO.rec (motive:=λ_=>BO) (λf=>BO.rec (motive:=λ_=>BO) (λg=>.mk λck b e d n k=>f ck b e d n λe d n=>g ck b e d n k) (cOs r)) (cO1 o)
def ag4 (f g:Clo):Clo:=λck j b e d n k=>f ck j b e d n λx e d n=>Ex.rec (motive:=λ_=>RX) (g ck j b e d n k) (λid=>k (.exit id) e d n) (k .ret e d n) x
def acU (c:Gt)(f g:Clo):Clo:=λck j b e d n k=>asB (c e) λt=>bC t (f ck j b e d n k) (g ck j b e d n k)
def UQ (id:Nat)(f:Clo):Clo:=λck g b e d n k=>f ck g b e d n λx e d n=>Ex.rec (motive:=λ_=>RX) (k .normal e d n) (λi=>bC (Nat.beq i id) (k .normal e d n) (k (.exit i) e d n)) (k .ret e d n) x
def agz (f:Clo):Clo:=λck g b e d n k=>Nat.rec (motive:=λ_=>Env→DM→Pos→RX) (λ_ _ _=>.no) (λ_ j e d n=>f ck g b e d n λx e d n=>Ex.rec (motive:=λ_=>RX) (j e d n) (λid=>k (.exit id) e d n) (k .ret e d n) x) g e d n
def Pc (f:OpC):Clo:=λck _ b e d n k=>f ck b e d n (k .normal)
def c2 (f:Clo→Clo→Clo)(x y:BC):BC:=BC.rec (motive:=λ_=>BC) (λx=>BC.rec (motive:=λ_=>BC) (λy=>.mk (f x y)) y) x
def c1 (f:Clo→Clo)(x:BC):BC:=BC.rec (motive:=λ_=>BC) (λx=>.mk (f x)) x
def MN:K→Bool
 |.mov=>true|.pick=>true|.build _ _=>true|.load _ _=>true|.nilchk=>true|.bin _=>true|.eql _ _=>true|.un _=>true|.cint _=>true
 |.subs _ _=>true|.fadr _=>true|.fld _ _ _=>true|.idxl _=>true|.idxa _ _=>true|.idxs=>true|.look _ _ _=>true|.ext _=>true
 |.lens=>true|.lenl=>true|.lenm=>true|.mx _=>true|.usd=>true|.ibs=>true
 |_=>false
def JU:OP→Bool
 |.op o f=>match f with
  |true=>false
  |false=>MN o.k
 |_=>false
def UV:List OP→Bool
 |[]=>true
 |o::l=>match JU o with
  |true=>UV l
  |false=>false
def Gf:List OP→Nat→Bool
 |[],_=>false
 |o::_,0=>JU o
 |_::l,i+1=>Gf l i
def Uk (f:List OP):List (Nat×Nat)→List (Nat×Nat)
 |[]=>[]
 |p::r=>match Gf f p.1,Gf f p.2 with
  |true,true=>Uk f r
  |_,_=>p::Uk f r
def abN (o:FO)(f:Bool)(b:HP)(e:Env)(d:DM)(r:Pos):Inf:=match stepF e (HP.ov b (eG f d r)).get r o with
 |some (out,wr)=>.op (eZ wr) (trF e (HP.ov b (eG f d r)).get r o) (pP f r wr) (qF e r o) out
 |none=>.op none [] true .fail .unk
def acN (o:FO)(f:OpC):DOp:=λck b _ e d r n k=>f ck b e d r λj l g=>k (abN o false b e d r) j l g n
def okK (b:HP)(d:DM)(wr:Option (Pos×EO))(k:RX):RX:=Option.rec (motive:=λ_=>RX) k (λp=>bC (DL (hG (.ov b d) p.1)) .no k) wr
def clK (f:Bool)(d:DM)(r:Pos)(k:DM→RX):RX:=Bool.rec (motive:=λ_=>RX) (k d) (dSK r .none d k) f
def sPi (f:Bool)(r:Pos)(k:Pos→RX):RX:=Bool.rec (motive:=λ_=>RX) (k r) (sPK r k) f
def ah3 (o:FO)(j:Bool)(f:List TV→Pos→Q)(p:Env→List TV)(g:St'):DOp:=λ_ b _ e d r n k=>clK j d r λl=>qK b l (f (p e) r) λout wr=>okK b l wr (sWK wr d (λJ=>sPi j r λC=>k (abN o j b e d r) (g out e) J C n))
def acL (o:FO)(f:Bool):DOp:=λ_ b _ e d r n k=>match stepF e (HP.ov b (eG f d r)).get r o with
 |some (out,wr)=>bif okW (HP.ov b (eG f d r)).get wr then k (abN o f b e d r) (aW e o.dst out) (ul d wr) (cL f r) n else .no
 |none=>.no
def Na (ck:Callk)(b:HP)(j:List Pos)(t:Tgt)(g:List TV)(d:DM)(n:Pos)(k:Inf→TV→DM→Pos→RX):RX:=RCx (ck.call (.ov b d) t g .leaf n) λout f l=>bC (tL f j) (k (.call (.ov b d) f) out (mS f d) l) .no
def acQ (ck:Callk)(b:HP)(g:List Pos)(f:List TV)(d:DM)(n:Pos)(k:Inf→TV→DM→Pos→RX):RX:=match cI (HP.ov b d).get f with
 |some (t,f)=>Na ck b g t f d n k
 |none=>.no
def agJ (x:Gt)(v:Env→List TV)(g:St'):DOp:=λck b j e d r n k=>asC (x e) λc=>CV.rec (motive:=λ_=>RX) (λ_=>.no) (λ_ _=>.no) (λ_=>.no) .no (λ_ _ _=>.no) (λ_=>.no) .no (λ_ _ _ _ _=>.no) (λ_=>.no) .no (λ_=>.no) .no (λf=>Na ck b j (.fn f) (v e) d n λi out d n=>k i (g out e) d r n) (λp=>acQ ck b j (.pv (.one (.clo p))::v e) d n λi out d n=>k i (g out e) d r n) .no (λ_=>.no) (λ_=>.no) c
def dGd (g:Gt)(w:Bool)(j:St')(f:DOp):DOp:=λck b l e d r n k=>TV.rec (motive:=λ_=>RX) .no (λq=>PV.rec (motive:=λ_=>RX) (λc=>CV.rec (motive:=λ_=>RX) (λt=>bC (Bool.rec (motive:=λ_=>Bool) (Bool.rec (motive:=λ_=>Bool) true false t) t w) (f ck b l e d r n k) (k (.op none [] true .fail .unk) (j (.tup []) e) d r n)) (λ_ _=>.no) (λ_=>.no) .no (λ_ _ _=>.no) (λ_=>.no) .no (λ_ _ _ _ _=>.no) (λ_=>.no) .no (λ_=>.no) .no (λ_=>.no) (λ_=>.no) .no (λ_=>.no) (λ_=>.no) c) (λ_=>.no) q) (λ_=>k (.op none [] true .fail .unk) (j (.tup []) e) d r n) (g e)
def dC1 (args:List Src)(f:Option Pos):BD1:=match args with
 |[]=>.mk λ_ _ _ _ _ _ _ _=>.no
 |x::r=>BG.rec (motive:=λ_=>BD1) (λx=>BL.rec (motive:=λ_=>BD1) (λv=>BS.rec (motive:=λ_=>BD1) (λd=>.mk (agJ x v d)) (dB f)) (vsB r)) (vB x)
def dO1 (o:OP):BD1:=match o with
 |.op ⟨k,args,j,g⟩ al=>(match JU (.op ⟨k,args,j,g⟩ al)with
  |true=>BO.rec (motive:=λ_=>BD1) (λf=>.mk (acN ⟨k,args,j,g⟩ f)) (cO1 (.op ⟨k,args,j,g⟩ al))
  |false=>(match g with
   |none=>BE.rec (motive:=λ_=>BD1) (λf=>BL.rec (motive:=λ_=>BD1) (λv=>BS.rec (motive:=λ_=>BD1) (λd=>.mk (ah3 ⟨k,args,j,none⟩ al f v d)) (dB j)) (vsB args)) (eB k)
   |some p=>.mk (acL ⟨k,args,j,some p⟩ al)))
 |.call args j g=>(match g with
  |none=>dC1 args j
  |some (p,w)=>BD1.rec (motive:=λ_=>BD1) (λf=>BG.rec (motive:=λ_=>BD1) (λg=>BS.rec (motive:=λ_=>BD1) (λd=>.mk (dGd g w d f)) (dB j)) (gB p)) (dC1 args j))
 |_=>.mk λ_ _ _ _ _ _ _ _=>.no
def dOs:List OP→BD
 |[]=>.mk λ_ _ _ e d _ n k=>k [] e d n
 |o::l=>BD1.rec (motive:=λ_=>BD) (λf=>BD.rec (motive:=λ_=>BD) (λg=>.mk λck b j e d r n k=>f ck b j e d r n λi e d r n=>g ck b j e d r n λl e d n=>k (i::l) e d n) (dOs l)) (dO1 o)
def alN:List OP→Nat
 |[]=>0
 |.op _ true::l=>Nat.succ (alN l)
 |_::l=>alN l
def aaO (m:Nat)(b:HP):DM→Pos→(List Pos→DM→Pos→RX)→RX:=Nat.rec (motive:=λ_=>DM→Pos→(List Pos→DM→Pos→RX)→RX) (λd n k=>k [] d n) (λ_ g d n k=>frK b d n (dSK n .res d λj=>sPK n λn1=>g j n1 λl p f=>k (n::l) p f)) m
def ag9 (l:List Inf)(ps:List (Nat×Nat))(k:RX):RX:=List.rec (motive:=λ_=>RX) k (λp _ f=>bC (fK l p) f .no) ps
def drF (m:Nat)(ps:List (Nat×Nat))(g:aiu):Clo:=λck _ b e d n k=>aaO m b d n λf j n1=>g ck b f e j n n1 λl e d n=>ag9 l ps (k .normal e d n)
def aeq (m:Nat)(ps:List (Nat×Nat)):Bool:=ps.all λp=>Nat.blt p.1 m&&Nat.blt p.2 m
def dFc (j:List OP)(ps:List (Nat×Nat)):BC:=match UV j&&aeq j.length ps with
 |true=>BO.rec (motive:=λ_=>BC) (λf=>.mk (Pc f)) (cOs j)
 |false=>BD.rec (motive:=λ_=>BC) (λg=>.mk (drF (alN j) (Uk j ps) g)) (dOs j)
def fc:FC→BC
 |.skip=>.mk λ_ _ _ e d n k=>k .normal e d n
 |.region g=>BO.rec (motive:=λ_=>BC) (λf=>.mk (Pc f)) (cOs g)
 |.drawn g ps=>dFc g ps
 |.seq x y=>c2 ag4 (fc x) (fc y)
 |.cond c x y=>BG.rec (motive:=λ_=>BC) (λc=>c2 (acU c) (fc x) (fc y)) (vB c)
 |.block id x=>c1 (UQ id) (fc x)
 |.loop x=>c1 agz (fc x)
 |.exit id=>.mk λ_ _ _ e d n k=>k (.exit id) e d n
 |.ret=>.mk λ_ _ _ e d n k=>k .ret e d n
 |c=>.mk λck j b e d n k=>bX (exec ck j c b e d n) k
inductive FJ where
 |no
 |ok (code:Clo) (res:List FR) (nt:Nat)
def fj (g:FuncId→Option Fi)(f:FuncId):FJ:=match g f with
 |some x=>BC.rec (motive:=λ_=>FJ) (λc=>.ok c x.res x.nt) (fc x.code)
 |none=>.no
abbrev Tb:=FuncId→HP→List TV→DM→Pos→RC
def Tw:Tb:=λ_ _ _ _ _=>.no
def Mm (a:RC)(b:RC):RC:=match a with
 |.no=>b
 |.ok v d n=>.ok v d n
def mkT (p:Tb)(r:FuncId→Option Fi)(g:Nat):Nat→Yk→Ck
 |0,l,b,t,args,d,n=>match t with
  |.yld j=>l b j args d n
  |.fn _=>.no
 |dp+1,l,b,t,args,d,n=>match t with
  |.yld j=>l b j args d n
  |.fn f=>Mm (p f b args d n) (match r f with
   |some x=>match Nat.ble args.length x.nt with
    |true=>XU b x.res (exec (I1 (mkT p r g dp) l) g x.code b (pJ args .e .leaf) d n)
    |false=>.no
   |none=>.no)
def ofA (l:List TV):Env→Pos→Env:=List.rec (motive:=λ_=>Env→Pos→Env) (λe _=>e) (λa _ f e p=>f (BS.rec (motive:=λ_=>Env) (λs=>s a e) (sB p)) (sP p)) l
def lnT (l:List TV):Nat:=List.rec (motive:=λ_=>Nat) 0 (λ_ _ f=>Nat.add f 1) l
def mkR (p:Tb)(J:FuncId→Option Fi)(g:Nat):Nat→Yk→Ck:=λP=>Nat.rec (motive:=λ_=>Yk→Ck)
 (λl b t args d n=>Tgt.rec (motive:=λ_=>RC) (λ_=>.no) (λj=>l b j args d n) t)
 (λ_ C l b t args d n=>Tgt.rec (motive:=λ_=>RC) (λf=>RC.rec (motive:=λ_=>RC) (FJ.rec (motive:=λ_=>RC) .no (λc res r=>Bool.rec (motive:=λ_=>RC) .no (XU b res (c (I1 C l) g b (ofA args .leaf .e) d n λx e d n=>.ok x e d n)) (Nat.ble (lnT args) r)) (fj J f)) (λv d n=>.ok v d n) (p f b args d n)) (λj=>l b j args d n) t) P
def QE:∀p:Pos,gB p = .mk (λe=>PM.get .unk e p)
 |.e=>by show BG.mk vl=_;congr 1;funext e;cases e <;> rfl
 |.o p=>by show BG.rec (motive:=λ_=>BG) (λg=>.mk λt=>g (lf t)) (gB p)=_;rw[QE p];show BG.mk (λt=>PM.get .unk (lf t) p)=_;congr 1;funext e;cases e <;> rfl
 |.i p=>by show BG.rec (motive:=λ_=>BG) (λg=>.mk λt=>g (rt t)) (gB p)=_;rw[QE p];show BG.mk (λt=>PM.get .unk (rt t) p)=_;congr 1;funext e;cases e <;> rfl
def Vq:∀p:Pos,sB p = .mk (λx t=>PM.set .unk p t x)
 |.e=>by show BS.mk _=_;congr 1;funext x e;cases e <;> rfl
 |.o p=>by show BS.rec (motive:=λ_=>BS) (λs=>.mk λx t=>PM.rec (motive:=λ_=>Env) (.node (s x .leaf) .unk .leaf) (λl a r _ _=>.node (s x l) a r) t) (sB p)=_;rw[Vq p];show BS.mk _=_;congr 1;funext x e;cases e <;> rfl
 |.i p=>by show BS.rec (motive:=λ_=>BS) (λs=>.mk λx t=>PM.rec (motive:=λ_=>Env) (.node .leaf .unk (s x .leaf)) (λl a r _ _=>.node l a (s x r)) t) (sB p)=_;rw[Vq p];show BS.mk _=_;congr 1;funext x e;cases e <;> rfl
def xC (s:Src):vB s = .mk (λe=>bk e s):=by
 cases s with
 |t p=>exact QE p
 |c v=>rfl
def BF (d:Option Pos):dB d = .mk (λv e=>aW e d v):=by
 cases d with
 |none=>rfl
 |some p=>exact Vq p
def Ly:∀l:List Src,vsB l = .mk (λe=>aT e l)
 |[]=>rfl
 |s::l=>by show BG.rec (motive:=λ_=>BL) (λg=>BL.rec (motive:=λ_=>BL) (λh=>.mk λe=>g e::h e) (vsB l)) (vB s)=_;rw[Ly l,xC s];rfl
def acP:∀(k:Pos) (d:DM),dG k d=PM.get none d k
 |.e,d=>by cases d <;> rfl
 |.o k,d=>by show dG k (dlf d)=_;rw[acP k];cases d <;> rfl
 |.i k,d=>by show dG k (drt d)=_;rw[acP k];cases d <;> rfl
def pS (o:EO):∀(k:Pos) (d:DM) (K:DM→RX),dSK k o d K=K (fP d k o)
 |.e,d,K=>by cases d <;> rfl
 |.o k,d,K=>by
  cases d with
  |leaf=>exact pS o k .leaf _
  |node l a r=>exact pS o k l _
 |.i k,d,K=>by
  cases d with
  |leaf=>exact pS o k .leaf _
  |node l a r=>exact pS o k r _
def yv:∀(p:Pos) (K:Pos→RX),sPK p K=K p.succ
 |.e,_=>rfl
 |.o _,_=>rfl
 |.i p,K=>yv p λq=>K (.o q)
def agp:∀p:Pos,sP p=p.succ
 |.e=>rfl
 |.o _=>rfl
 |.i p=>by show Pos.o (sP p)=_;rw[agp p];rfl
def VB:∀p:Pos,pN p=p.num
 |.e=>rfl
 |.o p=>by show Nat.add (Nat.mul 2 (pN p)) 1=_;rw[VB p];rfl
 |.i p=>by show Nat.add (Nat.mul 2 (pN p)) 2=_;rw[VB p];rfl
def Bh:∀(b:HP) (k:Pos),hG b k=b.get k
 |.nil,_=>rfl
 |.ov b d,k=>by show Option.rec (motive:=λ_=>EO) (hG b k) (λo=>o) (dG k d)=_;rw[Bh b,acP];simp[HP.get];cases PM.get none d k <;> rfl
 |.cut b n,k=>by show Bool.rec (motive:=λ_=>EO) .none (hG b k) (Nat.blt (pN k) (pN n))=_;rw[Bh b,VB,VB];simp[HP.get];cases Nat.blt k.num n.num <;> rfl
def Hw (b:HP)(d:DM)(n:Pos)(k:RX):frK b d n k=bif bz true (HP.ov b d).get n then k else .no:=by unfold frK;rw[Bh];simp[bz];cases(HP.ov b d).get n <;> rfl
def nY (t:Bool)(a b:RX):bC t a b=cond t a b:=by cases t <;> rfl
def agy (n:Int)(k:Int→RX):nI n k=k n:=by
 cases n with
 |ofNat m=>cases m <;> rfl
 |negSucc m=>cases m <;> rfl
def GT (n:Nat)(k:Nat→RX):nN n k=k n:=by cases n <;> rfl
def Co (wr:Option (Pos×EO))(d:DM)(k:DM→RX):sWK wr d k=k (ul d wr):=by
 cases wr with
 |none=>rfl
 |some p=>exact pS p.2 p.1 d k
def Gb (b:HP)(d:DM)(k:TV→Option (Pos×EO)→RX):∀q:Q,qK b d q k=match q.run (HP.ov b d).get with
  |some (out,wr)=>k out wr
  |none=>.no
 |.fail=>rfl
 |.ret _ _=>rfl
 |.rd p f=>by show qK b d (f (hG (.ov b d) p)) k=_;rw[Gb b d k (f (hG (.ov b d) p)),Bh];rfl
def Ed (o:OP):OpC:=λck b e d n k=>match aP ck b [o] e d n with
 |.ok e d n=>k e d n
 |.no=>.no
def Vx (o:FO)(f:Bool):Ed (.op o f)=bZ o f:=by
 funext ck b e d n k;simp[Ed,bZ,aP];cases bz f (HP.ov b d).get n with
 |false=>rfl
 |true =>simp;cases stepF e (HP.ov b d).get n o <;> rfl
section
variable (x y z:Src)(r:Option Pos)
def bf (e:Env)(h:Pos→EO)(f:Pos)(k:K)(args:List Src):stepF e h f ⟨k,args,r,none⟩=(dX k (aT e args) f).run h:=rfl
def adm (k:K)(args:List Src):WM (dX k) (λe=>aT e args) (λv e=>aW e r v)=bZ ⟨k,args,r,none⟩ false:=by
 funext ck b e d n K;simp[WM,bZ,Gb,bf,bz];cases(dX k (aT e args) n).run (HP.ov b d).get with
 |none=>rfl
 |some p=>exact Co _ _ _
def adl (k:K)(args:List Src):WL (dX k) (λe=>aT e args) (λv e=>aW e r v)=bZ ⟨k,args,r,none⟩ true:=by
 funext ck b e d n K;simp[WL,bZ,Gb,bf,Hw];cases bz true (HP.ov b d).get n with
 |false=>rfl
 |true=>
  simp;cases(dX k (aT e args) n).run (HP.ov b d).get with
  |none=>rfl
  |some p=>simp[Co,yv];rfl
def afZ:ai0 (λe=>bk e x) (λv e=>aW e r v)=bZ ⟨.mov,[x],r,none⟩ false:=rfl
def ac6:ac7 (λe=>bk e x) (λe=>bk e y) (λe=>bk e z) (λv e=>aW e r v)=bZ ⟨.pick,[x,y,z],r,none⟩ false:=by
 funext ck b e d n K;simp[ac7,bZ,bf,bz,dX,aT];generalize bk e x=v;obtain _|p|l:=v
 ·rfl
 ·obtain c|l:=p
  ·cases c with
   |bl t=>cases t <;> rfl
   |_=>rfl
  ·rfl
 ·rfl
def afX:aid (λe=>bk e x) (λv e=>aW e r v)=bZ ⟨.un .not,[x],r,none⟩ false:=by
 funext ck b e d n K;simp[aid,bZ,bf,bz,dX,aT];generalize bk e x=v;obtain _|p|l:=v
 ·rfl
 ·obtain c|l:=p
  ·cases c with
   |bl t=>cases t <;> rfl
   |_=>rfl
  ·rfl
 ·rfl
def adn (c:Nat):ado c (λe=>bk e x) (λv e=>aW e r v)=bZ ⟨.fadr c,[x],r,none⟩ false:=by
 funext ck b e d n K;simp[ado,bZ,bf,bz,dX,aT,GT];generalize bk e x=v;obtain _|p|l:=v
 ·rfl
 ·obtain c|l:=p
  ·cases c <;> rfl
  ·rfl
 ·rfl
def abB:∀l:List Nat,lnN l=l.length
 |[]=>rfl
 |_::l=>by show Nat.add (lnN l) 1=_;rw[abB l];rfl
def MF:∀l:List CV,lnC l=l.length
 |[]=>rfl
 |_::l=>by show Nat.add (lnC l) 1=_;rw[MF l];rfl
def abA:∀l:List TV,lnT l=l.length
 |[]=>rfl
 |_::l=>by show Nat.add (lnT l) 1=_;rw[abA l];rfl
def ada:adb (λe=>bk e x) (λv e=>aW e r v)=bZ ⟨.lens,[x],r,none⟩ false:=by
 funext ck b e d n K;simp[adb,bZ,bf,bz,dX,aT,GT];generalize bk e x=v;obtain _|p|l:=v
 ·rfl
 ·obtain c|l:=p
  ·cases c with
   |str s =>simp[KM,gG,yH,Q.run,asS,asC,abB];rfl
   |_=>rfl
  ·rfl
 ·rfl
def adc:ade (λe=>bk e x) (λv e=>aW e r v)=bZ ⟨.lenl,[x],r,none⟩ false:=by
 funext ck b e d n K;simp[ade,bZ,bf,bz,dX,aT,GT];generalize bk e x=v;obtain _|p|l:=v
 ·rfl
 ·obtain c|l:=p
  ·cases c with
   |sl p g o n c =>simp[KN,gG,yH,Q.run,asC];rfl
   |_=>rfl
  ·rfl
 ·rfl
def afY:aie (λe=>bk e x) (λv e=>aW e r v)=bZ ⟨.nilchk,[x],r,none⟩ false:=by
 funext ck b e d n K;simp[aie,bZ,bf,bz,dX,aT];generalize bk e x=v;obtain _|p|l:=v
 ·rfl
 ·obtain c|l:=p
  ·cases c <;> rfl
  ·rfl
 ·rfl
def VI (k:PV→RX):∀(l:List PV) (i:Nat),aeV l i k=match l.drop i with
  |p::_=>k p
  |[]=>.no
 |[],i=>by simp[aeV]
 |a::l,0=>rfl
 |a::l,i+1=>by show aeV l i k=_;rw[VI k l i];rfl
def adp (i:Nat):adq i (λe=>bk e x) (λv e=>aW e r v)=bZ ⟨.ext i,[x],r,none⟩ false:=by
 funext ck b e d n K;simp[adq,bZ,bf,bz,dX,aT,VI];generalize bk e x=v;obtain _|p|l:=v
 ·rfl
 ·rfl
 ·simp[Zc,tuK];cases l.drop i <;> rfl
def VJ (k:Nat→RX):∀(l:List Nat) (i:Nat),aeW l i k=match l.drop i with
  |p::_=>k p
  |[]=>.no
 |[],i=>by simp[aeW]
 |a::l,0=>rfl
 |a::l,i+1=>by show aeW l i k=_;rw[VJ k l i];rfl
def adh:adi (λe=>bk e x) (λe=>bk e y) (λv e=>aW e r v)=bZ ⟨.idxs,[x,y],r,none⟩ false:=by
 funext ck b e d n K;simp[adi,bZ,bf,bz,dX,aT,GT,VJ];generalize bk e x=v;generalize bk e y=u;obtain _|p|l:=v
 ·rfl
 ·obtain c|l:=p
  ·cases c with
   |str s=>
    obtain _|p|l:=u
    ·rfl
    ·obtain c|l:=p
     ·cases c with
      |int f i=>
       cases i with
       |ofNat i=>
        simp[KO,asS,asC,asI];cases s.drop i with
        |nil=>rfl
        |cons c t=>simp[gG,yH,Q.run];rfl
       |negSucc i=>rfl
      |_=>rfl
     ·rfl
    ·rfl
   |_=>rfl
  ·rfl
 ·rfl
def adj (s:Nat):adk s (λe=>bk e x) (λe=>bk e y) (λv e=>aW e r v)=bZ ⟨.idxl s,[x,y],r,none⟩ false:=by
 funext ck b e d n K;simp[adk,bZ,bf,bz,dX,aT,GT];generalize bk e x=v;generalize bk e y=u;obtain _|p|l:=v
 ·rfl
 ·obtain c|l:=p
  ·cases c with
   |sl p g o m c=>
    obtain _|p|l:=u
    ·rfl
    ·obtain c|l:=p
     ·cases c with
      |int f i=>
       cases i with
       |ofNat i =>simp[KP,asL,asC,asI,nY];cases Nat.blt i m <;> rfl
       |negSucc i=>rfl
      |_=>rfl
     ·rfl
    ·rfl
   |_=>rfl
  ·rfl
 ·rfl
def xk (f:Int→Int→Bool)(fn:Nat→Nat→Bool)(op:BinOp)(T:∀k a b,If op k a b=ux (f a b))(R:∀a b,fn a b=f (.ofNat a) (.ofNat b))(P:op ≠ .shl∧op ≠ .shr):Rz f fn op (λe=>bk e x) (λe=>bk e y) (λv e=>aW e r v)=bZ ⟨.bin op,[x,y],r,none⟩ false:=by
 funext ck b e d n K;simp[Rz,bZ,bf,bz,dX,aT,Gb];generalize bk e x=v;generalize bk e y=u;have J:(match (tQ op [v,u] n).run (HP.ov b d).get with|some (out,wr)=>sWK wr d λd=>K (aW e r out) d n|none=>RX.no)=(match (tQ op [v,u] n).run (HP.ov b d).get with|some (out,wr)=>K (aW e r out) (ul d wr) (cL false n)|none=>.no):=by
  cases(tQ op [v,u] n).run (HP.ov b d).get with
  |none=>rfl
  |some p=>exact Co _ _ _
 obtain _|p|l:=v
 ·rfl
 ·obtain c|l:=p
  ·cases c with
   |int j a=>
    simp[asI,asC];obtain _|p|l:=u
    ·rfl
    ·obtain c|l:=p
     ·cases c with
      |int C g=>
       have e1:tQ op [.pv (.one (.int j a)),.pv (.one (.int C g))] n=bif kq j C then If op j a g else .fail:=by
        cases op <;> first|rfl|exact absurd rfl P.1|exact absurd rfl P.2
       rw[e1,T];simp[nY];cases kq j C with
       |false=>rfl
       |true=>
        have U:i2 a g (λa g=>bif fn a g then K (aW e r (oB true)) d n else K (aW e r (oB false)) d n) (bif f a g then K (aW e r (oB true)) d n else K (aW e r (oB false)) d n)=K (aW e r (oB (f a g))) d n:=by
         cases a with
         |ofNat a=>
          cases g with
          |ofNat g =>show(bif fn a g then K (aW e r (oB true)) d n else K (aW e r (oB false)) d n)=_;rw[R];cases f (.ofNat a) (.ofNat g) <;> rfl
          |negSucc g=>show(bif f _ _ then _ else _)=_;cases f (.ofNat a) (.negSucc g) <;> rfl
         |negSucc a=>show(bif f _ _ then _ else _)=_;cases f (.negSucc a) g <;> rfl
        simp;rw[U];rfl
      |_=>rfl
     ·rfl
    ·rfl
   |_=>exact J
  ·rfl
 ·rfl
def ZO (s:Nat)(h:Nat.blt s 9223372036854775808=true):IntKind.wrap .i64 (.ofNat s) = .ofNat s:=by
 have h:=cx.1 h;have f:(s:Int)%(2^64:Int)=s:=Ω
 have g:IntKind.wrap .i64 (s:Int)=if (true&&decide ((s:Int)%(2^64:Int)≥(2^63:Int)))=true then(s:Int)%(2^64:Int)-(2^64:Int)else(s:Int)%(2^64:Int):=rfl
 show IntKind.wrap .i64 (s:Int)=(s:Int);rw[g,B']
 ·exact f
 ·simp[f];omega
def Wf {k:IntKind}(h:T7 k=true):k = .i64:=by cases k <;> first|rfl|cases h
def af4:aim (λe=>bk e x) (λe=>bk e y) (λv e=>aW e r v)=bZ ⟨.bin .add,[x,y],r,none⟩ false:=by
 funext ck b e d n K;simp[aim,bZ,bf,bz,dX,aT,Gb,agy,GT];generalize bk e x=v;generalize bk e y=u;have J:(match (tQ .add [v,u] n).run (HP.ov b d).get with|some (out,wr)=>sWK wr d λd=>K (aW e r out) d n|none=>RX.no)=(match (tQ .add [v,u] n).run (HP.ov b d).get with|some (out,wr)=>K (aW e r out) (ul d wr) (cL false n)|none=>.no):=by
  cases(tQ .add [v,u] n).run (HP.ov b d).get with
  |none=>rfl
  |some p=>exact Co _ _ _
 obtain _|p|l:=v
 ·rfl
 ·obtain c|l:=p
  ·cases c with
   |int f a=>
    simp[asI,asC];obtain _|p|l:=u
    ·rfl
    ·obtain c|l:=p
     ·cases c with
      |int P g=>
       show bC _ _ _=match (cond (kq f P) (If .add f a g) .fail).run (HP.ov b d).get with|some (out,wr)=>_|none=>_
       simp[nY];cases kq f P with
       |false=>rfl
       |true=>
        simp[If,gG,yH,Q.run];have tail:∀m:Int,m=f.wrap (a+g)→K (aW e r (oI f m)) d n=K (aW e r (.pv (.one (.int f (f.wrap (a+g)))))) (ul d none) (cL false n):=λm R=>by rw[R];rfl
        cases a with
        |negSucc a=>exact tail _ rfl
        |ofNat a=>
         cases g with
         |negSucc g=>exact tail _ rfl
         |ofNat g=>
          show(bif T7 f then bif Nat.blt (Nat.add a g) 9223372036854775808 then _ else _ else _)=_;cases C:T7 f with
          |false=>exact tail _ rfl
          |true=>
           have:=Wf C;subst this;simp;cases j:Nat.blt (Nat.add a g) 9223372036854775808 with
           |false=>exact tail _ rfl
           |true=>exact tail _ (ZO _ j).symm
      |_=>rfl
     ·rfl
    ·rfl
   |_=>exact J
  ·rfl
 ·rfl
def afV:aic (λe=>bk e x) (λe=>bk e y) (λv e=>aW e r v)=bZ ⟨.bin .sub,[x,y],r,none⟩ false:=by
 funext ck b e d n K;simp[aic,bZ,bf,bz,dX,aT,Gb,agy,GT];generalize bk e x=v;generalize bk e y=u;have P:(match (tQ .sub [v,u] n).run (HP.ov b d).get with|some (out,wr)=>sWK wr d λd=>K (aW e r out) d n|none=>RX.no)=(match (tQ .sub [v,u] n).run (HP.ov b d).get with|some (out,wr)=>K (aW e r out) (ul d wr) (cL false n)|none=>.no):=by
  cases(tQ .sub [v,u] n).run (HP.ov b d).get with
  |none=>rfl
  |some p=>exact Co _ _ _
 obtain _|p|l:=v
 ·rfl
 ·obtain c|l:=p
  ·cases c with
   |int g a=>
    simp[asI,asC];obtain _|p|l:=u
    ·rfl
    ·obtain c|l:=p
     ·cases c with
      |int R f=>
       show bC _ _ _=match (cond (kq g R) (If .sub g a f) .fail).run (HP.ov b d).get with|some (out,wr)=>_|none=>_
       simp[nY];cases kq g R with
       |false=>rfl
       |true=>
        simp[If,gG,yH,Q.run];have tail:∀m:Int,m=g.wrap (a-f)→K (aW e r (oI g m)) d n=K (aW e r (.pv (.one (.int g (g.wrap (a-f)))))) (ul d none) (cL false n):=λm T=>by rw[T];rfl
        cases a with
        |negSucc a=>exact tail _ rfl
        |ofNat a=>
         cases f with
         |negSucc f=>exact tail _ rfl
         |ofNat f=>
          show(bif Nat.ble f a then bif T7 g then bif Nat.blt a 9223372036854775808 then _ else _ else _ else _)=_;cases C:Nat.ble f a with
          |false=>exact tail _ rfl
          |true=>
           simp;cases J:T7 g with
           |false=>exact tail _ rfl
           |true=>
            have:=Wf J;subst this;simp;cases j:Nat.blt a 9223372036854775808 with
            |false=>exact tail _ rfl
            |true=>
             have C:=bp.1 C;have j:=cx.1 j;have U:(Int.ofNat a-Int.ofNat f:Int)=Int.ofNat (Nat.sub a f):=by show(a:Int)-(f:Int)=((a-f:Nat):Int);omega
             refine tail _ ?_;rw[U];exact(ZO _ (cx.2 (J? (Nat.sub_le a f) j))).symm
      |_=>rfl
     ·rfl
    ·rfl
   |_=>exact P
  ·rfl
 ·rfl
def Mc:∀(t:PT Ch) (i:Nat),ptG t i=t.get dch i
 |.leaf,_=>rfl
 |.node l a r,0=>rfl
 |.node l a r,i+1=>by
  show Bool.rec (motive:=λ_=>Ch) (ptG r (Nat.div i 2)) (ptG l (Nat.div i 2)) (Nat.beq (Nat.mod i 2) 0)=_;rw[Mc l,Mc r];show _=match Nat.beq (i%2) 0 with|true=>l.get dch (i/2)|false=>r.get dch (i/2)
  show Bool.rec (motive:=λ_=>Ch) (r.get dch (i/2)) (l.get dch (i/2)) (Nat.beq (i%2) 0)=_;cases Nat.beq (i%2) 0 <;> rfl
def UC:∀(l:List CV) (n:Nat),drC l n=l.drop n
 |[],n=>by simp[drC]
 |_::_,0=>rfl
 |_::l,n+1=>UC l n
def Sf:∀(l:List CV) (n:Nat),tkC l n=l.take n
 |[],n=>by simp[tkC]
 |_::_,0=>rfl
 |a::l,n+1=>by show a::tkC l n=_;rw[Sf l n];rfl
def adD (m:List CV):∀l:List CV,apC l m=l++m
 |[]=>rfl
 |a::l=>by show a::apC l m=_;rw[adD m l];rfl
def agZ (g:List CV)(f:Nat)(new:List CV):spC g f new=dj g f new:=by simp only[spC,dj,adD,Sf,UC,MF,D_];rfl
def Tc (x:Ch):∀(f:Nat) (t:PT Ch) (i:Nat),ptS f t i x=PT.set dch f t i x
 |0,_,_=>rfl
 |f+1,t,0=>by cases t <;> rfl
 |f+1,t,i+1=>by
  show Bool.rec (motive:=λ_=>PT Ch) (.node (pgL t) (pgV t) (ptS f (pgR t) (Nat.div i 2) x)) (.node (ptS f (pgL t) (Nat.div i 2) x) (pgV t) (pgR t)) (Nat.beq (Nat.mod i 2) 0)=_;rw[Tc x f,Tc x f];show Bool.rec (motive:=λ_=>PT Ch) (.node (pgL t) (pgV t) (PT.set dch f (pgR t) (i/2) x)) (.node (PT.set dch f (pgL t) (i/2) x) (pgV t) (pgR t)) (Nat.beq (i%2) 0)=_;cases t with
  |leaf =>simp[PT.set];cases Nat.beq (i%2) 0 <;> rfl
  |node l a r =>simp[PT.set];cases Nat.beq (i%2) 0 <;> rfl
def aaR (b:HP)(d:DM)(p:Pos)(g f m:Nat)(K:List CV→RX):rdK b d p g f m K=match (HP.ov b d).get p with
  |.row _ s r len j _=>bif Nat.ble g j&&Nat.blt (f/s) len then
    match r.get dch (f/s)with
    |⟨C,l⟩=>bif Nat.ble l g&&Nat.ble (f%s+m) s then K (C.drop (f%s))else .no
   else .no
  |_=>.no:=by
 unfold rdK;rw[Bh];cases(HP.ov b d).get p with
 |row t s r len j fz=>
  show bC (Nat.ble g j) (bC (Nat.blt (f/s) len) (chK (ptG r (f/s)) λC l=>bC (Nat.ble l g) (bC (Nat.ble (f%s+m) s) (K (drC C (f%s))) .no) .no) .no) .no=_;simp[nY,Mc,UC];cases Nat.ble g j with
  |false=>rfl
  |true=>
   cases Nat.blt (f/s) len with
   |false=>rfl
   |true=>
    simp;cases r.get dch (f/s)with
    |mk C l=>
     show(bif Nat.ble l g then(bif Nat.ble (f%s+m) s then _ else _)else _)=_;cases Nat.ble l g with
     |false=>rfl
     |true=>cases Nat.ble (f%s+m) s <;> rfl
 |_=>rfl
def P8 (h:Pos→EO)(s:Nat)(agg:Bool)(p:Pos)(g j:Nat)(f:Pos):(HK s agg [.pv (.one (.ptr p g j))] f).run h=match h p with
  |.row _ l J len r _=>bif Nat.ble g r&&Nat.blt (j/l) len then
    match J.get dch (j/l)with
    |⟨P,C⟩=>bif Nat.ble C g&&Nat.ble (j%l+s) l then(match LA agg ((P.drop (j%l)).take s)with|some p=>some (.pv p,none)|none=>none)else none
   else none
  |_=>none:=by
 simp[HK,Q.run,F9];cases h p with
 |row t l J len r fz=>
  simp only;cases(Nat.ble g r&&Nat.blt (j/l) len)with
  |false=>rfl
  |true=>
   simp;cases J.get dch (j/l)with
   |mk P C=>
    simp only;cases(Nat.ble C g&&Nat.ble (j%l+s) l)with
    |false=>rfl
    |true =>simp;cases LA agg ((P.drop (j%l)).take s) <;> rfl
 |_=>rfl
def af1:aig (λe=>bk e x) (λv e=>aW e r v)=bZ ⟨.load 1 false,[x],r,none⟩ false:=by
 funext ck b e d n K;simp[aig,bZ,bf,bz,dX,aT,aaR];generalize bk e x=v;obtain _|p|l:=v
 ·rfl
 ·obtain c|l:=p
  ·cases c with
   |ptr p g f=>
    rw[P8];simp[asR,asC];cases(HP.ov b d).get p with
    |row t j P len C fz=>
     simp only;cases(Nat.ble g C&&Nat.blt (f/j) len)with
     |false=>rfl
     |true=>
      simp;cases P.get dch (f/j)with
      |mk R J=>
       simp only;cases(Nat.ble J g&&Nat.ble (f%j+1) j)with
       |false=>rfl
       |true =>simp;cases R.drop (f%j) <;> rfl
    |_=>rfl
   |_=>rfl
  ·rfl
 ·rfl
def af0 (s:Nat):aif s (λe=>bk e x) (λv e=>aW e r v)=bZ ⟨.load s true,[x],r,none⟩ false:=by
 funext ck b e d n K;simp[aif,bZ,bf,bz,dX,aT,aaR,Sf];generalize bk e x=v;obtain _|p|l:=v
 ·rfl
 ·obtain c|l:=p
  ·cases c with
   |ptr p g f=>
    rw[P8];simp[asR,asC];cases(HP.ov b d).get p with
    |row t j P len C fz=>
     simp only;cases(Nat.ble g C&&Nat.blt (f/j) len)with
     |false=>rfl
     |true=>
      simp;cases P.get dch (f/j)with
      |mk R J=>
       simp only;cases(Nat.ble J g&&Nat.ble (f%j+s) j)with
       |false=>rfl
       |true=>rfl
    |_=>rfl
   |_=>rfl
  ·rfl
 ·rfl
def ac0 (p:PV):clP p=p.cells:=by cases p <;> rfl
def Xy (h:Pos→EO)(s:Nat)(p:Pos)(g j:Nat)(v:PV)(f:Pos):(CR s [.pv (.one (.ptr p g j)),.pv v] f).run h=bif Nat.beq v.cells.length s then(match h p with
  |.row t l C len r fz=>bif Nat.beq g r&&Nat.blt (j/l) len&&Nat.ble (j%l+v.cells.length) l&&QF fz then
    match C.get dch (j/l)with
    |⟨J,_⟩=>some (.unk,some (p,.row t l (C.set dch 32 (j/l) ⟨dj J (j%l) v.cells,r⟩) len r fz))
   else none
  |_=>none)else none:=by
 simp[CR];cases Nat.beq v.cells.length s with
 |false=>rfl
 |true=>
  simp[Q.run,E4];cases h p with
  |row t l C len r fz=>
   simp only;cases(Nat.beq g r&&Nat.blt (j/l) len&&Nat.ble (j%l+v.cells.length) l&&QF fz)with
   |false=>rfl
   |true=>
    simp;cases C.get dch (j/l)with
    |mk J P=>rfl
  |_=>rfl
def Zu (m:Nat):UL m (λe=>bk e x) (λe=>bk e y) (λv e=>aW e r v)=bZ ⟨.store m,[x,y],r,none⟩ false:=by
 funext ck b e d n K;simp[UL,bZ,bf,bz,dX,aT,Bh,ac0,MF,pS];generalize bk e x=v;generalize bk e y=u;obtain _|p|l:=v
 ·rfl
 ·obtain c|l:=p
  ·cases c with
   |ptr p g f=>
    obtain _|u|l:=u
    ·rfl
    ·rw[Xy];simp[asR,asC,asP,nY];cases J:Nat.beq u.cells.length m with
     |false=>rfl
     |true=>
      have J:u.cells.length=m:=κ J;simp;cases(HP.ov b d).get p with
      |row t j P len C fz=>
       simp[roW,J];cases Nat.beq g C with
       |false=>rfl
       |true=>
        show(bif Nat.blt (f/j) len then(bif Nat.ble (f%j+m) j then fzK fz (chK (ptG P (f/j)) λR _=>K (aW e r .unk) (fP d p (.row t j (ptS 32 P (f/j) ⟨spC R (f%j) u.cells,C⟩) len C fz)) n)else .no)else .no)=_;cases Nat.blt (f/j) len with
        |false=>rfl
        |true=>
         cases Nat.ble (f%j+m) j with
         |false=>rfl
         |true=>
          simp[Tc,agZ,Mc];cases fz with
          |no=>
           simp[fzK,QF];cases P.get dch (f/j)with
           |mk R T=>rfl
          |_=>rfl
      |_=>rfl
    ·rfl
   |_=>obtain _|u|l:=u <;> rfl
  ·obtain _|u|l:=u <;> rfl
 ·obtain _|u|l:=u <;> rfl
def Zv (t:TypeId)(f:List CV):UO t f (λv e=>aW e r v)=bZ ⟨.alloc t f,[],r,none⟩ true:=by funext ck b e d n K;simp[UO,bZ,bf,Hw,pS,yv];cases bz true (HP.ov b d).get n <;> rfl
def af3 (t:TypeId)(s:Nat):ail t s (λe=>bk e x) (λv e=>aW e r v)=bZ ⟨.box t s,[x],r,none⟩ true:=by
 funext ck b e d n K;simp[ail,bZ,bf,Hw,pS,yv,aT,dX,ac0,MF];cases bz true (HP.ov b d).get n with
 |false=>rfl
 |true=>
  simp;generalize bk e x=v;obtain _|p|l:=v
  ·rfl
  ·simp[asP,nY,acz];cases Nat.beq p.cells.length s <;> rfl
  ·rfl
end
def acA (k:K):eB k = .mk (dX k):=by cases k <;> rfl
def xX (f:Gt→St'→OpC)(x:Src)(r:Option Pos):m1 f x r = .mk (f (λe=>bk e x) (λv e=>aW e r v)):=by unfold m1;rw[xC,BF]
def uS (f:Gt→Gt→St'→OpC)(x y:Src)(r:Option Pos):m2 f x y r = .mk (f (λe=>bk e x) (λe=>bk e y) (λv e=>aW e r v)):=by unfold m2;rw[xC,xC,BF]
def aiP (f:Gt→Gt→Gt→St'→OpC)(x y z:Src)(r:Option Pos):m3 f x y z r = .mk (f (λe=>bk e x) (λe=>bk e y) (λe=>bk e z) (λv e=>aW e r v)):=by unfold m3;rw[xC,xC,xC,BF]
def abw (f:(Env→List TV)→St'→OpC)(l:List Src)(r:Option Pos):mL f l r = .mk (f (λe=>aT e l) (λv e=>aW e r v)):=by unfold mL;rw[Ly,BF]
def afh (k:K)(args:List Src)(r:Option Pos):ab3 k args r = .mk (bZ ⟨k,args,r,none⟩ false):=by unfold ab3;rw[acA];show mL (WM (dX k)) args r=_;rw[abw,adm]
def afg (k:K)(args:List Src)(r:Option Pos):ahP k args r = .mk (bZ ⟨k,args,r,none⟩ true):=by unfold ahP;rw[acA];show mL (WL (dX k)) args r=_;rw[abw,adl]
def aeX (b:Bool):(Bool.rec (motive:=λ_=>Bool) true false b:Bool) = !b:=by cases b <;> rfl
def aii (k:K)(args:List Src)(r:Option Pos):cK0 k args r = .mk (bZ ⟨k,args,r,none⟩ false):=by
 unfold cK0;split
 ·rw[xX,afZ]
 ·rw[aiP,ac6]
 ·rw[uS,adh]
 ·rw[xX,ada]
 ·rw[xX,adc]
 ·rw[xX,adn]
 ·rw[uS,Zu]
 ·rw[uS,adj]
 ·rw[xX,af1]
 ·rw[xX,af0]
 ·rw[xX,afY]
 ·rw[xX,adp]
 ·rw[xX,afX]
 ·rw[uS,xk _ _ _ _ _ _ (λ_ _ _=>rfl) (λa b=>by
   cases h:Nat.beq a b with
   |true=>rw[κ h];simp
   |false=>have:=E_ h;symm;simp;omega) ⟨by decide,by decide⟩]
 ·rw[uS,xk _ _ _ _ _ _ (λ_ _ _=>rfl) (λa b=>by
   rw[aeX];cases h:Nat.beq a b with
   |true=>rw[κ h];simp
   |false=>have:=E_ h;symm;simp;omega) ⟨by decide,by decide⟩]
 ·rw[uS,xk _ _ _ _ _ _ (λ_ _ _=>rfl) (λa b=>by
   cases h:Nat.blt a b with
   |true=>have:=cx.1 h;symm;simp;omega
   |false=>
    have:¬a<b:=λq=>by rw[cx.2 q]at h;cases h
    symm;simp;omega) ⟨by decide,by decide⟩]
 ·rw[uS,xk _ _ _ _ _ _ (λ_ _ _=>rfl) (λa b=>by
   cases h:Nat.ble a b with
   |true=>have:=bp.1 h;symm;simp;omega
   |false=>
    have:¬a≤b:=λq=>by rw[bp.2 q]at h;cases h
    symm;simp;omega) ⟨by decide,by decide⟩]
 ·rw[uS,xk _ _ _ _ _ _ (λ_ _ _=>rfl) (λa b=>by
   cases h:Nat.blt b a with
   |true=>have:=cx.1 h;symm;simp;omega
   |false=>
    have:¬b<a:=λq=>by rw[cx.2 q]at h;cases h
    symm;simp;omega) ⟨by decide,by decide⟩]
 ·rw[uS,xk _ _ _ _ _ _ (λ_ _ _=>rfl) (λa b=>by
   cases h:Nat.ble b a with
   |true=>have:=bp.1 h;symm;simp;omega
   |false=>
    have:¬b≤a:=λq=>by rw[bp.2 q]at h;cases h
    symm;simp;omega) ⟨by decide,by decide⟩]
 ·rw[uS,af4]
 ·rw[uS,afV]
 ·exact afh _ _ _
def aih (k:K)(args:List Src)(r:Option Pos):cK1 k args r = .mk (bZ ⟨k,args,r,none⟩ true):=by
 unfold cK1;split
 ·rw[BF];show BO.mk _=_;rw[Zv]
 ·rw[xX,af3]
 ·exact afg _ _ _
def adf (k:K)(args:List Src)(r:Option Pos)(f:Bool):cKa k args r f = .mk (bZ ⟨k,args,r,none⟩ f):=by
 cases f with
 |false=>exact aii k args r
 |true=>exact aih k args r
def aij (p:Pos)(w f:Bool)(k:K)(args:List Src)(r:Option Pos):cGd (λe=>PM.get .unk e p) w f (λv e=>aW e r v) (bZ ⟨k,args,r,none⟩ f)=bZ ⟨k,args,r,some (p,w)⟩ f:=by
 funext ck b e d n K;simp[cGd,Hw,yv];have C:bZ ⟨k,args,r,some (p,w)⟩ f ck b e d n K=bif bz f (HP.ov b d).get n then(match (match (match e.get .unk p with
   |.pv (.one (.bl b))=>some (match w with|true=>b|false=>!b)
   |.tup _=>some false
   |_=>none)with
   |some J=>match J with
    |true=>(dX k (aT e args) n).run (HP.ov b d).get
    |false=>some (.tup [],none)
   |none=>none)with
  |some (out,wr)=>K (aW e r out) (ul d wr) (cL f n)
  |none=>.no)else .no:=rfl
 rw[C];have j:∀K,bZ ⟨k,args,r,none⟩ f ck b e d n K=bif bz f (HP.ov b d).get n then(match (dX k (aT e args) n).run (HP.ov b d).get with
  |some (out,wr)=>K (aW e r out) (ul d wr) (cL f n)
  |none=>.no)else .no:=λ_=>rfl
 have g:(Bool.rec (motive:=λ_=>RX) (K (aW e r (.tup [])) d n) (bif bz true (HP.ov b d).get n then K (aW e r (.tup [])) d n.succ else .no) f:RX)=bif bz f (HP.ov b d).get n then K (aW e r (.tup [])) d (cL f n)else .no:=by cases f <;> rfl
 generalize PM.get .unk e p=v;obtain _|q|l:=v
 ·show RX.no=_;cases bz f (HP.ov b d).get n <;> rfl
 ·obtain c|l:=q
  ·cases c with
   |bl t=>
    simp[nY];cases w <;> cases t <;> first|exact j K|exact g
   |_=>show RX.no=_;cases bz f (HP.ov b d).get n <;> rfl
  ·show RX.no=_;cases bz f (HP.ov b d).get n <;> rfl
 ·exact g
def ab4 (p:Pos)(w g:Bool)(r:Option Pos)(f:OpC):gdB p w g r (.mk f) = .mk (cGd (λe=>PM.get .unk e p) w g (λv e=>aW e r v) f):=by unfold gdB;rw[QE,BF]
def XY (args:List Src)(r:Option Pos)(ck:Callk)(b:HP)(e:Env)(d:DM)(n:Pos)(k:Ko):Ed (.call args r none) ck b e d n k=match cI (HP.ov b d).get (aT e args)with
  |some (t,f)=>match ck.call b t f d n with
   |.ok out j g=>k (aW e r out) j g
   |.no=>.no
  |none=>.no:=by
 simp[Ed,aP,gd];cases cI (HP.ov b d).get (aT e args)with
 |none=>rfl
 |some p =>obtain⟨t,f⟩:=p;simp only;cases ck.call b t f d n <;> rfl
def adu (args:List Src)(r:Option Pos):cC1 args r = .mk (Ed (.call args r none)):=by
 unfold cC1;split
 ·congr 1
 next x l=>
  rw[xC];show mL (adt (λe=>bk e x)) l r=_;rw[abw];congr 1;funext ck b e d n K;rw[XY];simp[adt,aT];generalize bk e x=v;obtain _|p|m:=v
  ·rfl
  ·obtain c|m:=p
   ·cases c with
    |fnc f =>simp[asC,cI,RCx];cases ck.call b (.fn f) (aT e l) d n <;> rfl
    |clo q=>
     simp[asC,ads,RCx];cases cI (HP.ov b d).get (.pv (.one (.clo q))::aT e l)with
     |none=>rfl
     |some p =>obtain⟨t,g⟩:=p;simp only;cases ck.call b t g d n <;> rfl
    |_=>rfl
   ·rfl
  ·rfl
def S5 (args:List Src)(r:Option Pos)(p:Pos)(w:Bool):cGd (λe=>PM.get .unk e p) w false (λv e=>aW e r v) (Ed (.call args r none))=Ed (.call args r (some (p,w))):=by
 funext ck b e d n K;have f:Ed (.call args r (some (p,w))) ck b e d n K=match (match e.get .unk p with
   |.pv (.one (.bl b))=>some (match w with|true=>b|false=>!b)
   |.tup _=>some false
   |_=>none)with
   |some true=>Ed (.call args r none) ck b e d n K
   |some false=>K (aW e r (.tup [])) d n
   |none=>.no:=by
  simp[Ed,aP];show(match (match gd e (some (p,w))with|some true=>_|some false=>_|none=>_:RS)with|.ok e d n=>K e d n|.no=>RX.no)=match gd e (some (p,w))with|some true=>_|some false=>_|none=>_
  cases gd e (some (p,w))with
  |none=>rfl
  |some t=>cases t <;> rfl
 rw[f];simp[cGd];generalize PM.get .unk e p=v;obtain _|q|l:=v
 ·rfl
 ·obtain c|l:=q
  ·cases c with
   |bl t =>simp[nY];cases w <;> cases t <;> rfl
   |_=>rfl
  ·rfl
 ·rfl
def ac9 (o:OP):cO1 o = .mk (Ed o):=by
 unfold cO1;split
 next k args r g al=>
  rw[Vx];split
  ·exact adf k args r al
  next p w=>rw[adf,ab4,aij]
 next args r g=>
  split
  ·exact adu args r
  next p w=>rw[adu,ab4,S5]
 ·rfl
def OY (ck:Callk)(b:HP)(o:OP)(l:List OP)(e:Env)(d:DM)(n:Pos):aP ck b (o::l) e d n=match aP ck b [o] e d n with
  |.ok e d n=>aP ck b l e d n
  |.no=>.no:=by
 cases o with
 |op o j=>
  simp[aP];cases bz j (HP.ov b d).get n with
  |false=>rfl
  |true =>simp;cases stepF e (HP.ov b d).get n o <;> rfl
 |call args r g=>
  simp[aP];cases gd e g with
  |none=>rfl
  |some t=>
   cases t with
   |false=>rfl
   |true=>
    simp only;cases cI (HP.ov b d).get (aT e args)with
    |none=>rfl
    |some p =>obtain⟨t,f⟩:=p;simp only;cases ck.call b t f d n <;> rfl
 |nxt x r =>simp[aP];cases GQ (HP.ov b d).get (bk e x) <;> rfl
 |bad=>rfl
def ac8:∀l:List OP,cOs l = .mk (λck b e d n k=>match aP ck b l e d n with|.ok e d n=>k e d n|.no=>.no)
 |[]=>rfl
 |o::l=>by show BO.rec (motive:=λ_=>BO) (λf=>BO.rec (motive:=λ_=>BO) (λg=>.mk λck b e d n k=>f ck b e d n λe d n=>g ck b e d n k) (cOs l)) (cO1 o)=_;rw[ac9,ac8 l];show BO.mk _=_;congr 1;funext ck b e d n k;rw[OY];simp[Ed];cases aP ck b [o] e d n <;> rfl
def NoW:Q→Prop
 |.fail=>True
 |.ret _ wr=>wr=none
 |.rd _ f=>∀o,NoW (f o)
def NoW.run {h:Pos→EO}:∀{q:Q},NoW q→∀{out:TV} {wr:Option (Pos×EO)},q.run h=some (out,wr)→wr=none
 |.fail,_,_,_,g=>by cases g
 |.ret _ _,j,out,wr,g=>by cases g;exact j
 |.rd k f,j,out,wr,g=>NoW.run (j (h k)) g
def dU (k:IntKind)(n:Int):NoW (gG k n):=by simp[gG,yH];rfl
def qL (c:CV):NoW (sk c):=rfl
def Av (c:Bool):NoW (ux c):=rfl
def PH (p:Option PV):NoW (XV p none):=by unfold XV;split <;> trivial
def gu {c:Bool}{p q:Q}(h:NoW p)(k:NoW q):NoW (cond c p q):=by cases c <;> assumption
def abl (op:BinOp)(k:IntKind)(a b:Int):NoW (If op k a b):=by
 unfold If;split <;> first|exact dU _ _|exact Av _|exact gu trivial (dU _ _)|trivial
def VK (op:BinOp)(k:IntKind)(a b:Int):NoW (shI op k a b):=by
 unfold shI;refine gu trivial ?_;split <;> first|exact dU _ _|trivial
def abk (op:BinOp)(a b:List Nat):NoW (adw op a b):=by
 unfold adw;split <;> first|exact Av _|exact gu (qL _) trivial|trivial
def PI (ok:Bool)(z:PV)(r:Option PV):NoW (wL ok z r):=by unfold wL;split <;> split <;> rfl
def aaW:∀(k:K),MN k=true→∀(g:List TV) (f:Pos),NoW (dX k g f):=by
 intro k j g f;cases k <;> first|(cases j;done)|skip
 all_goals simp[dX]
 case mov=>unfold UB;split <;> trivial
 case pick=>unfold Wt;split <;> first|trivial|(split <;> trivial)
 case build=>unfold HL;split <;> trivial
 case load=>
  unfold HK;split
  ·split
   ·intro o;simp only;split
    ·exact PH _
    ·trivial
   ·trivial
  ·trivial
 case nilchk=>unfold Bz;split <;> first|trivial|(split <;> trivial)
 case bin op=>
  unfold tQ;split
  ·split
   ·split
    ·split
     ·exact VK _ _ _ _
     ·exact VK _ _ _ _
     ·exact gu (abl _ _ _ _) trivial
    ·exact abk _ _ _
    ·trivial
   ·trivial
  ·trivial
 case eql=>unfold acy;split <;> first|trivial|(split <;> first|trivial|exact Av _)
 case un=>unfold eUn;split <;> first|trivial|(split <;> first|trivial|exact Av _|exact dU _ _)
 case cint=>unfold Q8;split <;> first|trivial|(split <;> first|trivial|exact dU _ _)
 case subs=>
  unfold Q3;split
  ·unfold adv;split
   ·split
    ·split
     ·split
      ·exact gu (qL _) trivial
      ·trivial
     ·trivial
    ·trivial
   ·trivial
  ·trivial
 case fadr=>unfold Q7;split <;> first|trivial|(split <;> trivial)
 case fld=>unfold acx;split <;> first|trivial|(split <;> first|trivial|exact gu (PH _) trivial)
 case idxl=>unfold KP;split <;> first|trivial|(split <;> first|trivial|exact gu (qL _) trivial)
 case idxa=>unfold Q6;split <;> first|trivial|(split <;> first|trivial|exact gu (qL _) trivial)
 case idxs=>unfold KO;split <;> first|trivial|(split <;> first|trivial|(split <;> first|trivial|exact dU _ _))
 case look=>
  unfold Q4;split
  ·split
   ·refine gu ?_ trivial;split
    ·exact PI _ _ _
    ·intro o;simp only;split
     ·split
      ·exact PI _ _ _
      ·trivial
     ·trivial
    ·trivial
   ·trivial
  ·trivial
 case ext=>unfold Zc;split <;> first|trivial|(split <;> first|trivial|(split <;> trivial))
 case lens=>unfold KM;split <;> first|trivial|(split <;> first|trivial|exact dU _ _)
 case lenl=>unfold KN;split <;> first|trivial|(split <;> first|trivial|exact dU _ _)
 case lenm=>
  unfold Q5;split
  ·split
   ·exact dU _ _
   ·intro o;simp only;split
    ·exact dU _ _
    ·trivial
   ·trivial
  ·trivial
 case mx=>unfold eMx;split <;> first|trivial|(split <;> first|trivial|exact gu (dU _ _) trivial)
 case usd=>unfold acv;split <;> first|trivial|(split <;> first|trivial|exact qL _|exact gu (qL _) trivial)
 case ibs=>unfold acw;split <;> first|trivial|(split <;> first|trivial|exact gu (dU _ _) trivial)
variable{o:FO}{al:Bool}
def Cr (j:MN o.k=true){e:Env}{h:Pos→EO}{f:Pos}{out:TV}{wr:Option (Pos×EO)}(g:stepF e h f o=some (out,wr)):wr=none:=by
 unfold stepF at g;split at g
 ·split at g
  ·exact(aaW _ j _ _).run g
  ·simp at g;exact g.2.symm
 ·cases g
def xw (o:OP):DOp:=λck b l e d r n k=>match o with
 |.op o al=>match stepF e (HP.ov b (eG al d r)).get r o with
  |some (out,wr)=>bif okW (HP.ov b (eG al d r)).get wr then k (.op (eZ wr) (trF e (HP.ov b (eG al d r)).get r o) (pP al r wr) (qF e r o) out) (aW e o.dst out) (ul d wr) (cL al r) n else .no
  |none=>.no
 |.call args f g=>match gd e g with
  |some true=>match cI (HP.ov b d).get (aT e args)with
   |some (t,vs)=>match ck.call (.ov b d) t vs .leaf n with
    |.ok out j p=>bif tL j l then k (.call (.ov b d) j) (aW e f out) (mS j d) r p else .no
    |.no=>.no
   |none=>.no
  |some false=>k (.op none [] true .fail .unk) (aW e f (.tup [])) d r n
  |none=>.no
 |_=>.no
def CG {o:FO}{al:Bool}{b:HP}{e:Env}{d:DM}{r:Pos}{out:TV}{wr:Option (Pos×EO)}(h:stepF e (HP.ov b (eG al d r)).get r o=some (out,wr)):abN o al b e d r = .op (eZ wr) (trF e (HP.ov b (eG al d r)).get r o) (pP al r wr) (qF e r o) out:=by unfold abN;rw[h]
def Af (h:JU (.op o al)=true):al=false∧MN o.k=true:=by
 cases al with
 |true=>cases h
 |false=>exact⟨rfl,h⟩
def acM (h:JU (.op o al)=true):acN o (bZ o al)=xw (.op o al):=by
 obtain⟨rfl,j⟩:=Af h;funext ck b l e d r n k;simp[acN,bZ,xw,bz,eG];have g:=@CG o false b e d r;simp[eG]at g;cases f:stepF e (HP.ov b d).get r o with
 |none=>rfl
 |some p =>obtain⟨out,wr⟩:=p;have:=Cr j f;subst this;rw[g f];rfl
def ahu (b:HP)(d:DM)(wr:Option (Pos×EO))(k:RX):okK b d wr k=bif okW (HP.ov b d).get wr then k else .no:=by
 cases wr with
 |none=>rfl
 |some p =>show bC (DL (hG (.ov b d) p.1)) .no k=_;rw[Bh,nY];simp only[okW];cases DL ((HP.ov b d).get p.1) <;> rfl
def ah6 (al:Bool)(d:DM)(r:Pos)(k:DM→RX):clK al d r k=k (eG al d r):=by
 cases al with
 |false=>rfl
 |true=>exact pS _ _ _ _
def ag5 (al:Bool)(r:Pos)(k:Pos→RX):sPi al r k=k (cL al r):=by
 cases al with
 |false=>rfl
 |true=>exact yv _ _
def afG (k:K)(args:List Src)(f:Option Pos)(al:Bool):ah3 ⟨k,args,f,none⟩ al (dX k) (λe=>aT e args) (λv e=>aW e f v)=xw (.op ⟨k,args,f,none⟩ al):=by
 funext ck b l e d r n K;simp[ah3,xw,ah6,Gb,ahu,Co,ag5,bf];have g:=@CG ⟨k,args,f,none⟩ al b e d r;simp[bf]at g;cases j:(dX k (aT e args) r).run (HP.ov b (eG al d r)).get with
 |none=>rfl
 |some p =>obtain⟨out,wr⟩:=p;simp only;rw[g j]
def acK (o:FO)(al:Bool):acL o al=xw (.op o al):=by
 funext ck b g e d r n K;simp[acL,xw];cases f:stepF e (HP.ov b (eG al d r)).get r o with
 |none=>rfl
 |some p =>obtain⟨out,wr⟩:=p;simp only;rw[CG f]
def KV (ck:Callk)(b:HP)(j:List Pos)(t:Tgt)(g:List TV)(d:DM)(n:Pos)(k:Inf→TV→DM→Pos→RX):Na ck b j t g d n k=match ck.call (.ov b d) t g .leaf n with
  |.ok out f l=>bif tL f j then k (.call (.ov b d) f) out (mS f d) l else .no
  |.no=>.no:=by
 unfold Na RCx;cases ck.call (.ov b d) t g .leaf n with
 |no=>rfl
 |ok out f l=>exact nY _ _ _
def acR (args:List Src)(g:Option Pos):dC1 args g = .mk (xw (.call args g none)):=by
 unfold dC1;split
 ·rfl
 next x l=>
  rw[xC,Ly,BF];show BD1.mk _=_;congr 1;funext ck b C e d r n K;simp[agJ,xw,gd,aT];generalize bk e x=v;obtain _|p|m:=v
  ·rfl
  ·obtain c|m:=p
   ·cases c with
    |fnc f=>simp[asC,cI];exact KV _ _ _ _ _ _ _ _
    |clo q=>
     simp[asC,acQ];cases cI (HP.ov b d).get (.pv (.one (.clo q))::aT e l)with
     |none=>rfl
     |some p =>obtain⟨t,j⟩:=p;exact KV _ _ _ _ _ _ _ _
    |_=>rfl
   ·rfl
  ·rfl
def ah4 (args:List Src)(f:Option Pos)(p:Pos)(w:Bool):dGd (λe=>PM.get .unk e p) w (λv e=>aW e f v) (xw (.call args f none))=xw (.call args f (some (p,w))):=by
 funext ck b g e d r n K;have j:xw (.call args f (some (p,w))) ck b g e d r n K=match (match e.get .unk p with
   |.pv (.one (.bl b))=>some (match w with|true=>b|false=>!b)
   |.tup _=>some false
   |_=>none)with
   |some true=>xw (.call args f none) ck b g e d r n K
   |some false=>K (.op none [] true .fail .unk) (aW e f (.tup [])) d r n
   |none=>.no:=rfl
 rw[j];simp[dGd];generalize PM.get .unk e p=v;obtain _|q|l:=v
 ·rfl
 ·obtain c|l:=q
  ·cases c with
   |bl t =>simp[nY];cases w <;> cases t <;> rfl
   |_=>rfl
  ·rfl
 ·rfl
def ah2 (o:OP):dO1 o = .mk (xw o):=by
 cases o with
 |op o al=>
  obtain⟨k,args,f,g⟩:=o;simp[dO1];split
  next hp=>rw[ac9,Vx];show BD1.mk _=_;rw[acM hp]
  ·split
   ·rw[acA,Ly,BF];show BD1.mk _=_;rw[afG]
   ·rw[acK]
 |call args f g=>
  simp[dO1];split
  ·exact acR args f
  next p w=>rw[acR,QE,BF];show BD1.mk _=_;rw[ah4]
 |nxt x f=>rfl
 |bad=>rfl
def XQ (ck:Callk)(b:HP)(f:List Pos)(o:OP)(l:List OP)(e:Env)(d:DM)(r n:Pos)(k:List Inf→Env→DM→Pos→RX) :
  (match od ck b f (o::l) e d r n with|.ok l e d n=>k l e d n|.no=>RX.no)=xw o ck b f e d r n λi e d r n=>match od ck b f l e d r n with|.ok l e d n=>k (i::l) e d n|.no=>RX.no:=by
 have j:∀(i:Inf) (t:RT'),(match BK i t with|.ok l e d n=>k l e d n|.no=>RX.no)=match t with|.ok l e d n=>k (i::l) e d n|.no=>RX.no:=λi t=>by cases t <;> rfl
 cases o with
 |op o al=>
  simp[od,xw];cases stepF e (HP.ov b (eG al d r)).get r o with
  |none=>rfl
  |some p=>
   obtain⟨out,wr⟩:=p;simp only;cases okW (HP.ov b (eG al d r)).get wr with
   |false=>rfl
   |true=>simp;exact j _ _
 |call args J g=>
  simp[od,xw];cases gd e g with
  |none=>rfl
  |some t=>
   cases t with
   |false=>exact j _ _
   |true=>
    simp only;cases cI (HP.ov b d).get (aT e args)with
    |none=>rfl
    |some p=>
     obtain⟨t,C⟩:=p;simp only;cases ck.call (.ov b d) t C .leaf n with
     |no=>rfl
     |ok out P R=>
      simp only;cases tL P f with
      |false=>rfl
      |true=>simp;exact j _ _
 |_=>rfl
def acO:∀l:List OP,dOs l = .mk (λck b j e d r n k=>match od ck b j l e d r n with|.ok l e d n=>k l e d n|.no=>.no)
 |[]=>rfl
 |o::l=>by show BD1.rec (motive:=λ_=>BD) (λf=>BD.rec (motive:=λ_=>BD) (λg=>.mk λck b j e d r n k=>f ck b j e d r n λi e d r n=>g ck b j e d r n λl e d n=>k (i::l) e d n) (dOs l)) (dO1 o)=_;rw[ah2,acO l];show BD.mk _=_;congr 1;funext ck b j e d r n k;exact(XQ ck b j o l e d r n k).symm
def qC (b:HP):∀(f:List OP) (d:DM) (n:Pos) (k:List Pos→DM→Pos→RX),aaO (alN f) b d n k=match tJ b f d n with
  |some (l,j,g)=>k l j g
  |none=>.no
 |[],_,_,_=>rfl
 |.op o true::r,d,n,k=>by
  show frK b d n (dSK n .res d λC=>sPK n λn1=>aaO (alN r) b C n1 λl j g=>k (n::l) j g)=_;rw[Hw,pS,yv,qC b r];simp[tJ,bz];cases(HP.ov b d).get n with
  |none=>
   simp;cases tJ b r (fP d n .res) n.succ with
   |none=>rfl
   |some p=>rfl
  |_=>rfl
 |.op o false::r,d,n,k=>qC b r d n k
 |.call _ _ _::r,d,n,k=>qC b r d n k
 |.nxt _ _::r,d,n,k=>qC b r d n k
 |.bad::r,d,n,k=>qC b r d n k
def VA (l:List Inf)(k:RX):∀ps:List (Nat×Nat),ag9 l ps k=bif dN l ps then k else .no
 |[]=>rfl
 |p::r=>by show bC (fK l p) (ag9 l r k) .no=_;rw[VA l k r,nY];simp[dN];cases fK l p <;> rfl
def JJ {ck:Callk}{b:HP}{rs:List Pos}:∀(p:List OP) {e:Env} {d:DM} {r n:Pos} {l:List Inf} {T:Env} {U:DM} {R:Pos},od ck b rs p e d r n = .ok l T U R→∀i,Gf p i=true→∃tr fr q out,nth l i=some (.op none tr fr q out)
 |[],e,d,r,n,l,T,U,R,h,i,hi=>by cases i <;> cases hi
 |o::p,e,d,r,n,l,T,U,R,h,i,hi=>by
  have key:∃j e1 d1 r1 n1 f,l=j::f∧od ck b rs p e1 d1 r1 n1 = .ok f T U R∧(JU o=true→∃tr fr q out,j = .op none tr fr q out):=by
   have cons:∀(j:Inf) (t:RT'),BK j t = .ok l T U R→∃f,l=j::f∧t = .ok f T U R:=λj t ht=>by
    cases t with
    |no=>cases ht
    |ok f e1 d1 n1 =>simp only[BK]at ht;injection ht with P C h3 h4;subst P;subst C;subst h3;subst h4;exact⟨f,rfl,rfl⟩
   cases o with
   |op o al=>
    simp[od]at h;split at h
    ·rename_i out wr hs;rw[k?]at h;split at h
     ·obtain⟨f,P,C⟩:=cons _ _ h;refine⟨_,_,_,_,_,f,P,C,λJ=>?_⟩;obtain⟨rfl,J⟩:=Af J;have:=Cr J hs;subst this;exact⟨_,_,_,_,rfl⟩
     ·cases h
    ·cases h
   |call args dst g=>
    simp[od]at h;split at h
    ·split at h
     ·split at h
      ·rw[k?]at h;split at h
       ·obtain⟨f,P,C⟩:=cons _ _ h;exact⟨_,_,_,_,_,f,P,C,λJ=>by cases J⟩
       ·cases h
      ·cases h
     ·cases h
    ·obtain⟨f,P,C⟩:=cons _ _ h;exact⟨_,_,_,_,_,f,P,C,λJ=>by cases J⟩
    ·cases h
   |nxt x dst=>cases h
   |bad=>cases h
  obtain⟨j,e1,d1,r1,n1,f,rfl,C,h3⟩:=key;cases i with
  |zero =>obtain⟨tr,fr,q,out,rfl⟩:=h3 hi;exact⟨tr,fr,q,out,rfl⟩
  |succ i=>exact JJ p C i hi
def Uj {f:List OP}{l:List Inf}(h:∀i,Gf f i=true→∃g j q out,nth l i=some (.op none g j q out)):∀ps:List (Nat×Nat),dN l (Uk f ps)=dN l ps
 |[]=>rfl
 |p::r=>by
  simp[Uk];split
  next h1 h2=>
   rw[Uj h r];obtain⟨R,f1,q1,U,J⟩:=h _ h1;obtain⟨P,f2,q2,T,C⟩:=h _ h2;have:fK l p=true:=by
    simp only[fK,J,C,dS,C5,Nq];rfl
   simp[dN,this]
  ·simp[dN,Uj h r]
def RP {ck:Callk}{b:HP}:∀(f:List OP),UV f=true→∀(e:Env) (d:DM) (n m:Pos),(∃l j,od ck b [] f e d n m = .ok l j d m∧aP ck b f e d n = .ok j d n∧∀i,i<f.length→∃P U q out,nth l i=some (.op none P U q out))∨(od ck b [] f e d n m = .no∧aP ck b f e d n = .no)
 |[],_,e,d,n,m=>.inl ⟨[],e,rfl,rfl,λi r=>by cases r⟩
 |o::f,h,e,d,n,m=>by
  simp[UV]at h;split at h
  next g=>
   cases o with
   |op o al=>
    obtain⟨rfl,g⟩:=Af g;simp only[od,aP,bz,I',eG];cases R:stepF e (HP.ov b d).get n o with
    |none=>exact .inr ⟨rfl,rfl⟩
    |some p=>
     obtain⟨out,wr⟩:=p;have:=Cr g R;subst this;simp only[okW,I',ul,cL];rcases RP f h (aW e o.dst out) d n m with⟨l,j,J,C,T⟩|⟨J,C⟩
     ·refine .inl ⟨_,j,by rw[J];rfl,C,λi r=>?_⟩;cases i with
      |zero=>exact⟨_,_,_,_,rfl⟩
      |succ i=>exact T i (by simpa using r)
     ·exact .inr ⟨by rw[J];rfl,C⟩
   |_=>cases g
  ·cases h
def Lb (b:HP):∀(f:List OP),UV f=true→∀(d:DM) (n:Pos),tJ b f d n=some ([],d,n)
 |[],_,_,_=>rfl
 |o::f,h,d,n=>by
  simp[UV]at h;split at h
  next g=>
   cases o with
   |op o al =>obtain⟨rfl,g⟩:=Af g;exact Lb b f h d n
   |_=>cases g
  ·cases h
def Vw (g:List OP)(f:OpC)(j:cOs g = .mk f)(l:Nat)(ck:Callk)(b:HP)(e:Env)(d:DM)(n:Pos)(k:Kx):Pc f ck l b e d n k=bX (exec ck l (.region g) b e d n) k:=by rw[ac8]at j;cases j;simp[Pc,exec];cases aP ck b g e d n <;> rfl
def afH (f:List OP)(ps:List (Nat×Nat))(g:aiu)(j:dOs f = .mk g)(r:Nat)(ck:Callk)(b:HP)(e:Env)(d:DM)(n:Pos)(k:Kx):drF (alN f) (Uk f ps) g ck r b e d n k=bX (exec ck r (.drawn f ps) b e d n) k:=by
 rw[acO]at j;cases j;simp[drF,qC,exec,VA];cases tJ b f d n with
 |none=>rfl
 |some p=>
  obtain⟨C,P,n1⟩:=p;simp only;cases J:od ck b C f e P n n1 with
  |no=>rfl
  |ok l T U R =>simp only;rw[Uj (JJ f J)];cases dN l ps <;> rfl
def JY {l:List Inf}{m:Nat}(h:∀i,i<m→∃f g q out,nth l i=some (.op none f g q out)):∀ps:List (Nat×Nat),aeq m ps=true→dN l ps=true
 |[],_=>rfl
 |p::r,hp=>by
  simp only[aeq,t?,ι]at hp;obtain⟨P,f1,q1,T,C⟩:=h _ (cx.1 hp.1.1);obtain⟨J,U,q2,R,j⟩:=h _ (cx.1 hp.1.2);have:fK l p=true:=by simp only[fK,C,j,dS,C5,Nq];rfl
  simp[dN,this];exact JY h r hp.2
def afI (g:List OP)(ps:List (Nat×Nat))(r:UV g=true)(J:aeq g.length ps=true)(f:OpC)(P:cOs g = .mk f)(C:Nat)(ck:Callk)(b:HP)(e:Env)(d:DM)(n:Pos)(k:Kx):Pc f ck C b e d n k=bX (exec ck C (.drawn g ps) b e d n) k:=by
 rw[Vw g f P];simp[exec,Lb b g r];rcases RP (ck:=ck) (b:=b) g r e d n n with⟨l,T,p,j,R⟩|⟨p,j⟩
 ·rw[p,j];simp[JY R ps J]
 ·rw[p,j]
def aiy (x:BO):∃f,x = .mk f:=by cases x;exact⟨_,rfl⟩
def ajb (x:BD):∃f,x = .mk f:=by cases x;exact⟨_,rfl⟩
def ah5 (j:List OP)(ps:List (Nat×Nat)):dFc j ps = .mk (λck l b e d n k=>bX (exec ck l (.drawn j ps) b e d n) k):=by
 unfold dFc;split
 next ha=>simp at ha;obtain⟨f,r⟩:=aiy (cOs j);rw[r];show BC.mk (Pc f)=_;congr 1;funext ck l b e d n k;exact afI j ps ha.1 ha.2 f r l ck b e d n k
 ·obtain⟨g,p⟩:=ajb (dOs j);rw[p];show BC.mk (drF (alN j) (Uk j ps) g)=_;congr 1;funext ck l b e d n k;exact afH j ps g p l ck b e d n k
def P6 (f:Clo)(ck:Callk)(g:Nat)(b:HP)(r:Env→DM→Pos→RX)(j:∀e d n k,f ck g b e d n k=bX (r e d n) k)(k:Kx):∀(m:Nat) (e:Env) (d:DM) (n:Pos),
  (Nat.rec (motive:=λ_=>Env→DM→Pos→RX) (λ_ _ _=>.no) (λ_ p e d n=>f ck g b e d n λx e d n=>Ex.rec (motive:=λ_=>RX) (p e d n) (λid=>k (.exit id) e d n) (k .ret e d n) x) m:Env→DM→Pos→RX) e d n=bX (qW r m e d n) k
 |0,_,_,_=>rfl
 |m+1,e,d,n=>by
  show f ck g b e d n _=_;rw[j];simp[qW];cases r e d n with
  |no=>rfl
  |ok x C J l=>
   cases x with
   |normal=>exact P6 f ck g b r j k m C J l
   |exit id=>rfl
   |ret=>rfl
def HF:∀c:FC,fc c = .mk (λck g b e d n k=>bX (exec ck g c b e d n) k)
 |.skip=>rfl
 |.region j=>by obtain⟨f,C⟩:=aiy (cOs j);show BO.rec (motive:=λ_=>BC) (λf=>.mk (Pc f)) (cOs j)=_;rw[C];show BC.mk (Pc f)=_;congr 1;funext ck g b e d n k;exact Vw j f C g ck b e d n k
 |.drawn j ps=>ah5 j ps
 |.seq x y=>by
  show c2 ag4 (fc x) (fc y)=_;rw[HF x,HF y];show BC.mk _=_;congr 1;funext ck g b e d n k;simp[ag4,exec];cases exec ck g x b e d n with
  |no=>rfl
  |ok r P R J=>cases r <;> rfl
 |.cond c x y=>by
  show BG.rec (motive:=λ_=>BC) (λc=>c2 (acU c) (fc x) (fc y)) (vB c)=_;rw[HF x,HF y,xC];show BC.mk _=_;congr 1;funext ck g b e d n k;simp[acU,exec,nY];generalize bk e c=v;obtain _|p|l:=v
  ·rfl
  ·obtain c|l:=p
   ·cases c with
    |bl t=>cases t <;> rfl
    |_=>rfl
   ·rfl
  ·rfl
 |.block id x=>by
  show c1 (UQ id) (fc x)=_;rw[HF x];show BC.mk _=_;congr 1;funext ck g b e d n k;simp[UQ,exec];cases exec ck g x b e d n with
  |no=>rfl
  |ok r P R J=>
   cases r with
   |normal=>rfl
   |ret=>rfl
   |exit i =>show bC (Nat.beq i id) _ _=_;rw[nY];simp only;cases Nat.beq i id <;> rfl
 |.loop x=>by show c1 agz (fc x)=_;rw[HF x];show BC.mk _=_;congr 1;funext ck g b e d n k;exact P6 (λck g b e d n k=>bX (exec ck g x b e d n) k) ck g b (exec ck g x b) (λ_ _ _ _=>rfl) k g e d n
 |.rloop _ _ _ _ _=>rfl
 |.rng _ _ _ _=>rfl
 |.exit _=>rfl
 |.ret=>rfl
 |.bad=>rfl
def abf:∀(l:List TV) (e:Env) (p:Pos),ofA l e p=pJ l p e
 |[],_,_=>rfl
 |a::l,e,p=>by show ofA l (BS.rec (motive:=λ_=>Env) (λs=>s a e) (sB p)) (sP p)=_;rw[abf l,Vq,agp];rfl
def ai1 (r:RX):bX r (λx e d n=>.ok x e d n)=r:=by cases r <;> rfl
def TE (l:Tb)(p:FuncId→Option Fi)(g:Nat):∀r:Nat,mkR l p g r=mkT l p g r
 |0=>by funext C b t args d n;cases t <;> rfl
 |r+1=>by
  funext C b t args d n;cases t with
  |yld j=>rfl
  |fn f=>
   show RC.rec (motive:=λ_=>RC) (FJ.rec (motive:=λ_=>RC) .no (λc res J=>Bool.rec (motive:=λ_=>RC) .no (XU b res (c (I1 (mkR l p g r) C) g b (ofA args .leaf .e) d n λx e d n=>.ok x e d n)) (Nat.ble (lnT args) J)) (fj p f)) (λv d n=>.ok v d n) (l f b args d n)=_;rw[TE l p g r];simp[mkT,abA,abf];cases l f b args d n with
   |ok v d n=>rfl
   |no=>
    simp[Mm,fj];cases p f with
    |none=>rfl
    |some x =>simp only;rw[HF];simp[ai1];cases Nat.ble args.length x.nt <;> rfl
