/- Closed runs. -/
import Derived.Test.YthfdnklcgfkjoaaGreatDoorCloE
set_option linter.all false
noncomputable section
namespace Go.Proofs.YthfdnklcgfkjoaaGreatDoor.Clo
open Go Go.RowKit
abbrev Kx:=Ex→Env→DM→Pos→RX
abbrev Ko:=Env→DM→Pos→RX
abbrev Clo:=Callk→Nat→HP→Env→DM→Pos→Kx→RX
abbrev OpC:=Callk→HP→Env→DM→Pos→Ko→RX
abbrev Gt:=Env→TV
abbrev St':=TV→Env→Env
inductive BG|mk (g:Gt)
inductive BS|mk (s:St')
inductive BL|mk (g:Env→List TV)
inductive BE|mk (f:List TV→Pos→Q)
inductive BO|mk (f:OpC)
inductive BC|mk (f:Clo)
abbrev an3:=Callk→HP→List Pos→Env→DM→Pos→Pos→(List Inf→Env→DM→Pos→RX)→RX
abbrev DOp:=Callk→HP→List Pos→Env→DM→Pos→Pos→(Inf→Env→DM→Pos→Pos→RX)→RX
inductive BD|mk (f:an3)
inductive BD1|mk (f:DOp)
def lf (t:Env):Env:=PM.rec (motive:=λ_=>Env) .leaf (λl _ _ _ _=>l) t
def rt (t:Env):Env:=PM.rec (motive:=λ_=>Env) .leaf (λ_ _ r _ _=>r) t
def vl (t:Env):TV:=PM.rec (motive:=λ_=>TV) .unk (λ_ a _ _ _=>a) t
def gB (p:Pos):BG:=Pos.rec (motive:=λ_=>BG) (.mk vl) (λ_ f=>BG.rec (motive:=λ_=>BG) (λg=>.mk λt=>g (lf t)) f) (λ_ f=>BG.rec (motive:=λ_=>BG) (λg=>.mk λt=>g (rt t)) f) p
def sB (p:Pos):BS:=Pos.rec (motive:=λ_=>BS) (.mk λx t=>PM.rec (motive:=λ_=>Env) (.node .leaf x .leaf) (λl _ r _ _=>.node l x r) t)
 (λ_ f=>BS.rec (motive:=λ_=>BS) (λs=>.mk λx t=>PM.rec (motive:=λ_=>Env) (.node (s x .leaf) .unk .leaf) (λl a r _ _=>.node (s x l) a r) t) f)
 (λ_ f=>BS.rec (motive:=λ_=>BS) (λs=>.mk λx t=>PM.rec (motive:=λ_=>Env) (.node .leaf .unk (s x .leaf)) (λl a r _ _=>.node l a (s x r)) t) f) p
def vB (s:Src):BG:=Src.rec (motive:=λ_=>BG) (λp=>gB p) (λv=>.mk λ_=>v) s
def dB (d:Option Pos):BS:=Option.rec (motive:=λ_=>BS) (.mk (λ_ e=>e)) (λp=>sB p) d
def vsB (l:List Src):BL:=List.rec (motive:=λ_=>BL) (.mk (λ_=>[])) (λs _ f=>BG.rec (motive:=λ_=>BL) (λg=>BL.rec (motive:=λ_=>BL) (λh=>.mk λe=>g e::h e) f) (vB s)) l
def dlf (t:DM):DM:=PM.rec (motive:=λ_=>DM) .leaf (λl _ _ _ _=>l) t
def drt (t:DM):DM:=PM.rec (motive:=λ_=>DM) .leaf (λ_ _ r _ _=>r) t
def dvl (t:DM):Option EO:=PM.rec (motive:=λ_=>Option EO) none (λ_ a _ _ _=>a) t
def dG (k:Pos):DM→Option EO:=Pos.rec (motive:=λ_=>DM→Option EO) dvl (λ_ f t=>f (dlf t)) (λ_ f t=>f (drt t)) k
def dSK (k:Pos)(o:EO):DM→(DM→RX)→RX:=Pos.rec (motive:=λ_=>DM→(DM→RX)→RX) (λt K=>PM.rec (motive:=λ_=>RX) (K (.node .leaf (some o) .leaf)) (λl _ r _ _=>K (.node l (some o) r)) t)
 (λ_ f t K=>PM.rec (motive:=λ_=>RX) (f .leaf λl=>K (.node l none .leaf)) (λl a r _ _=>f l λl=>K (.node l a r)) t)
 (λ_ f t K=>PM.rec (motive:=λ_=>RX) (f .leaf λr=>K (.node .leaf none r)) (λl a r _ _=>f r λr=>K (.node l a r)) t) k
def sPK (p:Pos):(Pos→RX)→RX:=Pos.rec (motive:=λ_=>(Pos→RX)→RX) (λK=>K (.o .e)) (λp _ K=>K (.i p)) (λ_ f K=>f λq=>K (.o q)) p
def pN (p:Pos):Nat:=Pos.rec (motive:=λ_=>Nat) 0 (λ_ f=>Nat.add (Nat.mul 2 f) 1) (λ_ f=>Nat.add (Nat.mul 2 f) 2) p
def sP (p:Pos):Pos:=Pos.rec (motive:=λ_=>Pos) (.o .e) (λp _=>.i p) (λ_ f=>.o f) p
def hG (b:HP):Pos→EO:=HP.rec (motive:=λ_=>Pos→EO) (λ_=>.none) (λ_ d f k=>Option.rec (motive:=λ_=>EO) (f k) (λo=>o) (dG k d)) (λ_ n f k=>Bool.rec (motive:=λ_=>EO) .none (f k) (Nat.blt (pN k) (pN n))) b
def bX (r:RX)(k:Kx):RX:=RX.rec (motive:=λ_=>RX) .no k r
def bC (t:Bool)(a b:RX):RX:=Bool.rec (motive:=λ_=>RX) b a t
def frK (b:HP)(d:DM)(n:Pos)(k:RX):RX:=EO.rec (motive:=λ_=>RX) k (λ_ _ _ _ _ _=>.no) (λ_ _=>.no) (λ_ _ _ _=>.no) (λ_ _ _ _=>.no) (λ_ _=>.no) (λ_ _ _=>.no) (λ_ _=>.no) .no .no .no .no (hG (.ov b d) n)
def roK (o:EO)(k:Nat→PT Ch→Nat→Nat→RX):RX:=EO.rec (motive:=λ_=>RX) .no (λ_ s g len f _=>k s g len f) (λ_ _=>.no) (λ_ _ _ _=>.no) (λ_ _ _ _=>.no) (λ_ _=>.no) (λ_ _ _=>.no) (λ_ _=>.no) .no .no .no .no o
def asP (v:TV)(k:PV→RX):RX:=TV.rec (motive:=λ_=>RX) .no k (λ_=>.no) v
def asC (v:TV)(k:CV→RX):RX:=TV.rec (motive:=λ_=>RX) .no (λp=>PV.rec (motive:=λ_=>RX) k (λ_=>.no) p) (λ_=>.no) v
def asB (v:TV)(k:Bool→RX):RX:=asC v λc=>CV.rec (motive:=λ_=>RX) k (λ_ _=>.no) (λ_=>.no) .no (λ_ _ _=>.no) (λ_=>.no) .no (λ_ _ _ _ _=>.no) (λ_=>.no) .no (λ_=>.no) .no (λ_=>.no) (λ_=>.no) .no (λ_=>.no) (λ_=>.no) c
def asI (v:TV)(k:IntKind→Int→RX)(z:RX):RX:=asC v λc=>CV.rec (motive:=λ_=>RX) (λ_=>z) k (λ_=>z) z (λ_ _ _=>z) (λ_=>z) z (λ_ _ _ _ _=>z) (λ_=>z) z (λ_=>z) z (λ_=>z) (λ_=>z) z (λ_=>z) (λ_=>z) c
def asS (v:TV)(k:List Nat→RX):RX:=asC v λc=>CV.rec (motive:=λ_=>RX) (λ_=>.no) (λ_ _=>.no) k .no (λ_ _ _=>.no) (λ_=>.no) .no (λ_ _ _ _ _=>.no) (λ_=>.no) .no (λ_=>.no) .no (λ_=>.no) (λ_=>.no) .no (λ_=>.no) (λ_=>.no) c
def asR (v:TV)(k:Pos→Nat→Nat→RX):RX:=asC v λc=>CV.rec (motive:=λ_=>RX) (λ_=>.no) (λ_ _=>.no) (λ_=>.no) .no k (λ_=>.no) .no (λ_ _ _ _ _=>.no) (λ_=>.no) .no (λ_=>.no) .no (λ_=>.no) (λ_=>.no) .no (λ_=>.no) (λ_=>.no) c
def asL (v:TV)(k:Pos→Nat→Nat→Nat→RX):RX:=asC v λc=>CV.rec (motive:=λ_=>RX) (λ_=>.no) (λ_ _=>.no) (λ_=>.no) .no (λ_ _ _=>.no) (λ_=>.no) .no (λp g o n _=>k p g o n) (λ_=>.no) .no (λ_=>.no) .no (λ_=>.no) (λ_=>.no) .no (λ_=>.no) (λ_=>.no) c
def nI (n:Int)(k:Int→RX):RX:=Int.rec (motive:=λ_=>RX) (λm=>Nat.rec (motive:=λ_=>RX) (k (.ofNat 0)) (λm _=>k (.ofNat (Nat.succ m))) m) (λm=>Nat.rec (motive:=λ_=>RX) (k (.negSucc 0)) (λm _=>k (.negSucc (Nat.succ m))) m) n
def nN (n:Nat)(k:Nat→RX):RX:=Nat.rec (motive:=λ_=>RX) (k 0) (λm _=>k (Nat.succ m)) n
def i2 (a b:Int)(f:Nat→Nat→RX)(z:RX):RX:=Int.rec (motive:=λ_=>RX) (λa=>Int.rec (motive:=λ_=>RX) (λb=>f a b) (λ_=>z) b) (λ_=>z) a
def oI (k:IntKind)(n:Int):TV :=.pv (.one (.int k n))
def oB (b:Bool):TV :=.pv (.one (.bl b))
def sWK (f:Option (Pos×EO))(d:DM)(k:DM→RX):RX:=Option.rec (motive:=λ_=>RX) (k d) (λp=>dSK p.1 p.2 d k) f
def qK (b:HP)(d:DM)(q:Q)(k:TV→Option (Pos×EO)→RX):RX:=Q.rec (motive:=λ_=>RX) .no k (λp _ f=>f (hG (.ov b d) p)) q
def cB (o:FO)(f:Bool):OpC:=λ_ b e d n k=>bif bT f (HP.ov b d).get n then(match stepF e (HP.ov b d).get n o with
 |some (out,wr)=>k (bn e o.dst out) (tJ d wr) (dc f n)
 |none=>.no)else .no
def Yp (f:List TV→Pos→Q)(l:Env→List TV)(g:St'):OpC:=λ_ b e d n k=>qK b d (f (l e) n) λout j=>sWK j d λd=>k (g out e) d n
def Yo (f:List TV→Pos→Q)(l:Env→List TV)(g:St'):OpC:=λ_ b e d n k=>frK b d n (qK b d (f (l e) n) (λout j=>sWK j d λd=>sPK n λn=>k (g out e) d n))
def aoI (x:Gt)(f:St'):OpC:=λ_ _ e d n k=>k (f (x e) e) d n
def afG (c x y:Gt)(f:St'):OpC:=λ_ _ e d n k=>asB (c e) λt=>bC t (k (f (x e) e) d n) (k (f (y e) e) d n)
def anE (x:Gt)(f:St'):OpC:=λ_ _ e d n k=>asB (x e) λt=>bC t (k (f (oB false) e) d n) (k (f (oB true) e) d n)
def S8 (f:Int→Int→Bool)(fn:Nat→Nat→Bool)(op:BinOp)(x y:Gt)(g:St'):OpC:=λ_ b e d n k=>
 asI (x e) (λr a=>asI (y e) (λp j=>bC (kq r p) (i2 a j (λa j=>bC (fn a j) (k (g (oB true) e) d n) (k (g (oB false) e) d n)) (bC (f a j) (k (g (oB true) e) d n) (k (g (oB false) e) d n))) .no) .no)
  (qK b d (tc op [x e,y e] n) λout l=>sWK l d λd=>k (g out e) d n)
def Vl (k:IntKind):Bool:=IntKind.rec (motive:=λ_=>Bool) false false false true false false false false k
def anN (x y:Gt)(f:St'):OpC:=λ_ b e d n k=>
 asI (x e) (λg a=>asI (y e) (λC j=>bC (kq g C) (i2 a j (λJ l=>bC (Vl g) (nN (Nat.add J l) λs=>bC (Nat.blt s 9223372036854775808) (k (f (oI g (.ofNat s)) e) d n) (nI (g.wrap (a+j)) λr=>k (f (oI g r) e) d n)) (nI (g.wrap (a+j)) λr=>k (f (oI g r) e) d n)) (nI (g.wrap (a+j)) λr=>k (f (oI g r) e) d n)) .no) .no)
  (qK b d (tc .add [x e,y e] n) λout p=>sWK p d λd=>k (f out e) d n)
def anD (x y:Gt)(f:St'):OpC:=λ_ b e d n k=>
 asI (x e) (λg a=>asI (y e) (λJ l=>bC (kq g J) (i2 a l (λp j=>bC (Nat.ble j p) (bC (Vl g) (bC (Nat.blt p 9223372036854775808) (nN (Nat.sub p j) λs=>k (f (oI g (.ofNat s)) e) d n) (nI (g.wrap (a-l)) λr=>k (f (oI g r) e) d n)) (nI (g.wrap (a-l)) λr=>k (f (oI g r) e) d n)) (nI (g.wrap (a-l)) λr=>k (f (oI g r) e) d n)) (nI (g.wrap (a-l)) λr=>k (f (oI g r) e) d n)) .no) .no)
  (qK b d (tc .sub [x e,y e] n) λout C=>sWK C d λd=>k (f out e) d n)
def ajq (l:List Nat):Nat→(Nat→RX)→RX:=List.rec (motive:=λ_=>Nat→(Nat→RX)→RX) (λ_ _=>.no) (λa _ f i k=>Nat.rec (motive:=λ_=>RX) (k a) (λi _=>f i k) i) l
def afQ (x y:Gt)(f:St'):OpC:=λ_ _ e d n k=>asS (x e) λs=>asI (y e) (λ_ i=>Int.rec (motive:=λ_=>RX) (λi=>ajq s i λc=>nN c λc=>k (f (oI .u8 (.ofNat c)) e) d n) (λ_=>.no) i) .no
def lnN (l:List Nat):Nat:=List.rec (motive:=λ_=>Nat) 0 (λ_ _ f=>Nat.add f 1) l
def lnC (l:List CV):Nat:=List.rec (motive:=λ_=>Nat) 0 (λ_ _ f=>Nat.add f 1) l
def afK (x:Gt)(f:St'):OpC:=λ_ _ e d n k=>asS (x e) λs=>nN (lnN s) λr=>k (f (oI .i64 (.ofNat r)) e) d n
def afW (c:Nat)(x:Gt)(f:St'):OpC:=λ_ _ e d n k=>asR (x e) λp g o=>nN (Nat.add o c) λo=>k (f (.pv (.one (.ptr p g o))) e) d n
def afS (s:Nat)(x y:Gt)(f:St'):OpC:=λ_ _ e d n k=>asL (x e) λp g o len=>asI (y e) (λ_ i=>Int.rec (motive:=λ_=>RX) (λi=>bC (Nat.blt i len) (nN (Nat.add o (Nat.mul i s)) (λo=>k (f (.pv (.one (.ptr p g o))) e) d n)) .no) (λ_=>.no) i) .no
def ptG (t:PT Ch):Nat→Ch:=PT.rec (motive:=λ_=>Nat→Ch) (λ_=>dch) (λ_ a _ g f i=>Nat.rec (motive:=λ_=>Ch) a (λi _=>Bool.rec (motive:=λ_=>Ch) (f (Nat.div i 2)) (g (Nat.div i 2)) (Nat.beq (Nat.mod i 2) 0)) i) t
def drC (l:List CV):Nat→List CV:=List.rec (motive:=λ_=>Nat→List CV) (λ_=>[]) (λa l f n=>Nat.rec (motive:=λ_=>List CV) (a::l) (λn _=>f n) n) l
def tkC (l:List CV):Nat→List CV:=List.rec (motive:=λ_=>Nat→List CV) (λ_=>[]) (λa _ f n=>Nat.rec (motive:=λ_=>List CV) [] (λn _=>a::f n) n) l
def hdC (l:List CV)(k:CV→RX):RX:=List.rec (motive:=λ_=>RX) .no (λc _ _=>k c) l
def chK (c:Ch)(k:List CV→Nat→RX):RX:=Ch.rec (motive:=λ_=>RX) k c
def rdK (b:HP)(d:DM)(p:Pos)(g f m:Nat)(k:List CV→RX):RX:=roK (hG (.ov b d) p) λs r len j=>
 bC (Nat.ble g j) (bC (Nat.blt (Nat.div f s) len) (chK (ptG r (Nat.div f s)) λC l=>bC (Nat.ble l g) (bC (Nat.ble (Nat.add (Nat.mod f s) m) s) (k (drC C (Nat.mod f s))) .no) .no) .no) .no
def anH (x:Gt)(f:St'):OpC:=λ_ b e d n k=>asR (x e) λp g o=>rdK b d p g o 1 λl=>hdC l λc=>k (f (.pv (.one c)) e) d n
def anG (s:Nat)(x:Gt)(f:St'):OpC:=λ_ b e d n k=>asR (x e) λp g o=>rdK b d p g o s λl=>k (f (.pv (.agg (tkC l s))) e) d n
def clP (p:PV):List CV:=PV.rec (motive:=λ_=>List CV) (λc=>[c]) (λl=>l) p
def apC (l m:List CV):List CV:=List.rec (motive:=λ_=>List CV) m (λa _ f=>a::f) l
def spC (g:List CV)(f:Nat)(new:List CV):List CV:=apC (tkC g f) (apC new (drC g (Nat.add f (lnC new))))
def pgL (t:PT Ch):PT Ch:=PT.rec (motive:=λ_=>PT Ch) .leaf (λl _ _ _ _=>l) t
def pgR (t:PT Ch):PT Ch:=PT.rec (motive:=λ_=>PT Ch) .leaf (λ_ _ r _ _=>r) t
def pgV (t:PT Ch):Ch:=PT.rec (motive:=λ_=>Ch) dch (λ_ a _ _ _=>a) t
def ptS (f:Nat):PT Ch→Nat→Ch→PT Ch:=Nat.rec (motive:=λ_=>PT Ch→Nat→Ch→PT Ch) (λt _ _=>t) (λ_ g t i x=>Nat.rec (motive:=λ_=>PT Ch) (.node (pgL t) x (pgR t)) (λi _=>Bool.rec (motive:=λ_=>PT Ch) (.node (pgL t) (pgV t) (g (pgR t) (Nat.div i 2) x)) (.node (g (pgL t) (Nat.div i 2) x) (pgV t) (pgR t)) (Nat.beq (Nat.mod i 2) 0)) i) f
def fzK (fz:Fz)(k:RX):RX:=Fz.rec (motive:=λ_=>RX) k .no .no fz
def roW (o:EO)(k:TypeId→Nat→PT Ch→Nat→Nat→Fz→RX):RX:=EO.rec (motive:=λ_=>RX) .no k (λ_ _=>.no) (λ_ _ _ _=>.no) (λ_ _ _ _=>.no) (λ_ _=>.no) (λ_ _ _=>.no) (λ_ _=>.no) .no .no .no .no o
def V7 (m:Nat)(x y:Gt)(l:St'):OpC:=λ_ b e d n k=>asR (x e) λp g f=>asP (y e) λv=>bC (Nat.beq (lnC (clP v)) m) (roW (hG (.ov b d) p) λt s r len j fz=>
 bC (Nat.beq g j) (bC (Nat.blt (Nat.div f s) len) (bC (Nat.ble (Nat.add (Nat.mod f s) m) s) (fzK fz (chK (ptG r (Nat.div f s)) λC _=>dSK p (.row t s (ptS 32 r (Nat.div f s) ⟨spC C (Nat.mod f s) (clP v),j⟩) len j fz) d λd=>k (l .unk e) d n)) .no) .no) .no) .no
def Wa (t:TypeId)(g:List CV)(f:St'):OpC:=λ_ b e d n k=>frK b d n (dSK n (.row t g.length (.node .leaf ⟨g,0⟩ .leaf) 1 0 .no) d (λd=>sPK n λj=>k (f (.pv (.one (.ptr n 0 0))) e) d j))
def anM (t:TypeId)(s:Nat)(x:Gt)(f:St'):OpC:=λ_ b e d n k=>frK b d n (asP (x e) (λp=>bC (Nat.beq (lnC (clP p)) s) (dSK n (.row t s (.node .leaf ⟨clP p,0⟩ .leaf) 1 0 .no) d (λd=>sPK n λg=>k (f (.pv (.one (.ptr n 0 0))) e) d g)) .no))
def afM (x:Gt)(f:St'):OpC:=λ_ _ e d n k=>asC (x e) λc=>CV.rec (motive:=λ_=>RX) (λ_=>.no) (λ_ _=>.no) (λ_=>.no) .no (λ_ _ _=>.no) (λ_=>.no) (k (f (oI .i64 (.ofNat 0)) e) d n) (λ_ _ _ m _=>nN m λm=>k (f (oI .i64 (.ofNat m)) e) d n) (λ_=>k (f (oI .i64 (.ofNat 0)) e) d n) .no (λ_=>.no) .no (λ_=>.no) (λ_=>.no) .no (λ_=>.no) (λ_=>.no) c
def anF (x:Gt)(j:St'):OpC:=λ_ _ e d n k=>asC (x e) λc=>CV.rec (motive:=λ_=>RX) (λ_=>.no) (λ_ _=>.no) (λ_=>.no) .no (λp g o=>k (j (.pv (.one (.ptr p g o))) e) d n) (λg=>k (j (.pv (.one (.glob g))) e) d n) .no (λ_ _ _ _ _=>.no) (λ_=>.no) .no (λ_=>.no) .no (λf=>k (j (.pv (.one (.fnc f))) e) d n) (λ_=>.no) .no (λi=>k (j (.pv (.one (.ifc i))) e) d n) (λ_=>.no) c
def tuK (v:TV)(k:List PV→RX):RX:=TV.rec (motive:=λ_=>RX) .no (λ_=>.no) k v
def ajp (l:List PV):Nat→(PV→RX)→RX:=List.rec (motive:=λ_=>Nat→(PV→RX)→RX) (λ_ _=>.no) (λa _ f i k=>Nat.rec (motive:=λ_=>RX) (k a) (λi _=>f i k) i) l
def afY (i:Nat)(x:Gt)(f:St'):OpC:=λ_ _ e d n k=>tuK (x e) λl=>ajp l i λp=>k (f (.pv p) e) d n
def RCx (r:RC)(k:TV→DM→Pos→RX):RX:=RC.rec (motive:=λ_=>RX) .no k r
def af0 (ck:Callk)(b:HP)(f:List TV)(d:DM)(n:Pos)(k:TV→DM→Pos→RX):RX:=match cX (HP.ov b d).get f with
 |some (t,f)=>RCx (ck.call b t f d n) k
 |none=>.no
def af1 (x:Gt)(r:Env→List TV)(g:St'):OpC:=λck b e d n k=>asC (x e) λc=>CV.rec (motive:=λ_=>RX) (λ_=>.no) (λ_ _=>.no) (λ_=>.no) .no (λ_ _ _=>.no) (λ_=>.no) .no (λ_ _ _ _ _=>.no) (λ_=>.no) .no (λ_=>.no) .no (λf=>RCx (ck.call b (.fn f) (r e) d n) λv d n=>k (g v e) d n) (λp=>af0 ck b (.pv (.one (.clo p))::r e) d n λv d n=>k (g v e) d n) .no (λ_=>.no) (λ_=>.no) c
def cGd (g:Gt)(w:Bool)(l:Bool)(j:St')(f:OpC):OpC:=λck b e d n k=>TV.rec (motive:=λ_=>RX) .no (λq=>PV.rec (motive:=λ_=>RX) (λc=>CV.rec (motive:=λ_=>RX) (λt=>bC (Bool.rec (motive:=λ_=>Bool) (Bool.rec (motive:=λ_=>Bool) true false t) t w) (f ck b e d n k) (Bool.rec (motive:=λ_=>RX) (k (j (.tup []) e) d n) (frK b d n (sPK n (λn=>k (j (.tup []) e) d n))) l)) (λ_ _=>.no) (λ_=>.no) .no (λ_ _ _=>.no) (λ_=>.no) .no (λ_ _ _ _ _=>.no) (λ_=>.no) .no (λ_=>.no) .no (λ_=>.no) (λ_=>.no) .no (λ_=>.no) (λ_=>.no) c) (λ_=>.no) q) (λ_=>Bool.rec (motive:=λ_=>RX) (k (j (.tup []) e) d n) (frK b d n (sPK n (λn=>k (j (.tup []) e) d n))) l) (g e)
def m1 (f:Gt→St'→OpC)(x:Src)(g:Option Pos):BO:=BG.rec (motive:=λ_=>BO) (λx=>BS.rec (motive:=λ_=>BO) (λd=>.mk (f x d)) (dB g)) (vB x)
def m2 (f:Gt→Gt→St'→OpC)(x y:Src)(g:Option Pos):BO:=BG.rec (motive:=λ_=>BO) (λx=>BG.rec (motive:=λ_=>BO) (λy=>BS.rec (motive:=λ_=>BO) (λd=>.mk (f x y d)) (dB g)) (vB y)) (vB x)
def m3 (f:Gt→Gt→Gt→St'→OpC)(x y z:Src)(g:Option Pos):BO:=BG.rec (motive:=λ_=>BO) (λx=>BG.rec (motive:=λ_=>BO) (λy=>BG.rec (motive:=λ_=>BO) (λz=>BS.rec (motive:=λ_=>BO) (λd=>.mk (f x y z d)) (dB g)) (vB z)) (vB y)) (vB x)
def mL (f:(Env→List TV)→St'→OpC)(l:List Src)(g:Option Pos):BO:=BL.rec (motive:=λ_=>BO) (λx=>BS.rec (motive:=λ_=>BO) (λd=>.mk (f x d)) (dB g)) (vsB l)
def eB:K→BE
 |.mov=>.mk (VQ)
 |.sy n=>.mk (eSy n)
 |.pick=>.mk (X7)
 |.alloc e f=>.mk (N9 e f)
 |.box e s=>.mk (aeW e s)
 |.build f ps=>.mk (Id f ps)
 |.lit e s len f p=>.mk (akd e s len f p)
 |.load s agg=>.mk (Ic s agg)
 |.store s=>.mk (CF s)
 |.nilchk=>.mk (Bm)
 |.bin op=>.mk (tc op)
 |.eql neg q=>.mk (aeV neg q)
 |.un op=>.mk (eUn op)
 |.cint k=>.mk (Sz k)
 |.same=>.mk (Sp)
 |.b2s=>.mk (akg)
 |.s2b e=>.mk (aoD e)
 |.i2s=>.mk (aeT)
 |.mki t=>.mk (akb t)
 |.mkf fn nf=>.mk (akc fn nf)
 |.mkm=>.mk (aka)
 |.mks e s bytes f=>.mk (aj9 e s bytes f)
 |.subs g j=>.mk (So g j)
 |.subl s g j mx=>.mk (X4 s g j mx)
 |.suba n s g j mx=>.mk (X5 n s g j mx)
 |.fadr d=>.mk (Sw d)
 |.fld l s agg=>.mk (aeU l s agg)
 |.idxl s=>.mk (Lw s)
 |.idxa n s=>.mk (Sv n s)
 |.idxs=>.mk (Lv)
 |.idxg n s agg=>.mk (Su n s agg)
 |.look q z ok=>.mk (Sq q z ok)
 |.put q=>.mk (aj7 q)
 |.ment q z=>.mk (Ya q z)
 |.mest=>.mk (X9)
 |.rngs=>.mk (alw)
 |.rngm=>.mk (X6)
 |.nexts=>.mk (aeQ)
 |.nextm=>.mk (aeR)
 |.ext i=>.mk (aaV i)
 |.lens=>.mk (Lt)
 |.lenl=>.mk (Lu)
 |.lenm=>.mk (Sr)
 |.lena n=>.mk (Ss n)
 |.capl=>.mk (SA)
 |.app e s bytes str=>.mk (akh e s bytes str)
 |.cpy s str=>.mk (akf s str)
 |.del q=>.mk (aoE q)
 |.mx r=>.mk (eMx r)
 |.ent=>.mk (ake)
 |.p2u=>.mk (aj8)
 |.u2p ok=>.mk (aj6 ok)
 |.usd=>.mk (aeP)
 |.ust e ok=>.mk (aj5 e ok)
 |.mknz e=>.mk (X8 e)
 |.ibs=>.mk (aeS)
 |_=>.mk (λ_ _=>.fail)
def am5 (k:K)(args:List Src)(g:Option Pos):BO:=BE.rec (motive:=λ_=>BO) (λf=>mL (Yp f) args g) (eB k)
def am4 (k:K)(args:List Src)(g:Option Pos):BO:=BE.rec (motive:=λ_=>BO) (λf=>mL (Yo f) args g) (eB k)
def cK0 (k:K)(args:List Src)(f:Option Pos):BO:=match k,args with
 |.mov,[x]=>m1 aoI x f
 |.pick,[c,x,y]=>m3 afG c x y f
 |.idxs,[x,y]=>m2 afQ x y f
 |.lens,[x]=>m1 afK x f
 |.lenl,[x]=>m1 afM x f
 |.fadr c,[x]=>m1 (afW c) x f
 |.store s,[x,y]=>m2 (V7 s) x y f
 |.idxl s,[x,y]=>m2 (afS s) x y f
 |.load 1 false,[x]=>m1 anH x f
 |.load s true,[x]=>m1 (anG s) x f
 |.nilchk,[x]=>m1 anF x f
 |.ext i,[x]=>m1 (afY i) x f
 |.un .not,[x]=>m1 anE x f
 |.bin .eql,[x,y]=>m2 (S8 (λa b=>decide (a=b)) Nat.beq .eql) x y f
 |.bin .neq,[x,y]=>m2 (S8 (λa b=>!decide (a=b)) (λa b=>Bool.rec (motive:=λ_=>Bool) true false (Nat.beq a b)) .neq) x y f
 |.bin .lss,[x,y]=>m2 (S8 (λa b=>decide (a<b)) Nat.blt .lss) x y f
 |.bin .leq,[x,y]=>m2 (S8 (λa b=>decide (a≤b)) Nat.ble .leq) x y f
 |.bin .gtr,[x,y]=>m2 (S8 (λa b=>decide (a>b)) (λa b=>Nat.blt b a) .gtr) x y f
 |.bin .geq,[x,y]=>m2 (S8 (λa b=>decide (a≥b)) (λa b=>Nat.ble b a) .geq) x y f
 |.bin .add,[x,y]=>m2 anN x y f
 |.bin .sub,[x,y]=>m2 anD x y f
 |k,args=>am5 k args f
def cK1 (k:K)(args:List Src)(f:Option Pos):BO:=match k,args with
 |.alloc t zs,[]=>BS.rec (motive:=λ_=>BO) (λd=>.mk (Wa t zs d)) (dB f)
 |.box t s,[x]=>m1 (anM t s) x f
 |k,args=>am4 k args f
def cKa (k:K)(args:List Src)(f:Option Pos)(g:Bool):BO:=Bool.rec (motive:=λ_=>BO) (cK0 k args f) (cK1 k args f) g
def gdB (p:Pos)(w l:Bool)(j:Option Pos)(f:BO):BO:=BO.rec (motive:=λ_=>BO) (λf=>BG.rec (motive:=λ_=>BO) (λg=>BS.rec (motive:=λ_=>BO) (λd=>.mk (cGd g w l d f)) (dB j)) (gB p)) f
def cC1 (args:List Src)(f:Option Pos):BO:=match args with
 |[]=>.mk λ_ _ _ _ _ _=>.no
 |x::r=>BG.rec (motive:=λ_=>BO) (λx=>mL (af1 x) r f) (vB x)
def aod (o:OP):BO :=.mk λck b e d n k=>match bc ck b [o] e d n with
 |.ok e d n=>k e d n
 |.no=>.no
def cO1 (o:OP):BO:=match o with
 |.op ⟨k,args,f,g⟩ al=>(match g with
  |none=>cKa k args f al
  |some (p,w)=>gdB p w al f (cKa k args f al))
 |.call args f g=>(match g with
  |none=>cC1 args f
  |some (p,w)=>gdB p w false f (cC1 args f))
 |o=>aod o
def cOs:List OP→BO
 |[]=>.mk λ_ _ e d n k=>k e d n
 |o::r=>BO.rec (motive:=λ_=>BO) (λf=>BO.rec (motive:=λ_=>BO) (λg=>.mk λck b e d n k=>f ck b e d n λe d n=>g ck b e d n k) (cOs r)) (cO1 o)
def al0 (f g:Clo):Clo:=λck j b e d n k=>f ck j b e d n λx e d n=>Ex.rec (motive:=λ_=>RX) (g ck j b e d n k) (λid=>k (.exit id) e d n) (k .ret e d n) x
def afg (c:Gt)(f g:Clo):Clo:=λck j b e d n k=>asB (c e) λt=>bC t (f ck j b e d n k) (g ck j b e d n k)
def Wd (id:Nat)(f:Clo):Clo:=λck g b e d n k=>f ck g b e d n λx e d n=>Ex.rec (motive:=λ_=>RX) (k .normal e d n) (λi=>bC (Nat.beq i id) (k .normal e d n) (k (.exit i) e d n)) (k .ret e d n) x
def als (f:Clo):Clo:=λck g b e d n k=>Nat.rec (motive:=λ_=>Env→DM→Pos→RX) (λ_ _ _=>.no) (λ_ j e d n=>f ck g b e d n λx e d n=>Ex.rec (motive:=λ_=>RX) (j e d n) (λid=>k (.exit id) e d n) (k .ret e d n) x) g e d n
def nV (f:OpC):Clo:=λck _ b e d n k=>f ck b e d n (k .normal)
def c2 (f:Clo→Clo→Clo)(x y:BC):BC:=BC.rec (motive:=λ_=>BC) (λx=>BC.rec (motive:=λ_=>BC) (λy=>.mk (f x y)) y) x
def c1 (f:Clo→Clo)(x:BC):BC:=BC.rec (motive:=λ_=>BC) (λx=>.mk (f x)) x
def NM:K→Bool
 |.mov=>true|.pick=>true|.build _ _=>true|.load _ _=>true|.nilchk=>true|.bin _=>true|.eql _ _=>true|.un _=>true|.cint _=>true|.same=>true|.i2s=>true
 |.subs _ _=>true|.fadr _=>true|.fld _ _ _=>true|.idxl _=>true|.idxa _ _=>true|.idxs=>true|.idxg _ _ _=>true|.look _ _ _=>true|.ext _=>true
 |.lens=>true|.lenl=>true|.lenm=>true|.lena _=>true|.capl=>true|.mx _=>true|.usd=>true|.ibs=>true
 |_=>false
def KE:OP→Bool
 |.op o f=>match f with
  |true=>false
  |false=>NM o.k
 |_=>false
def Wm:List OP→Bool
 |[]=>true
 |o::l=>match KE o with
  |true=>Wm l
  |false=>false
def Gs:List OP→Nat→Bool
 |[],_=>false
 |o::_,0=>KE o
 |_::l,i+1=>Gs l i
def VF (f:List OP):List (Nat×Nat)→List (Nat×Nat)
 |[]=>[]
 |p::r=>match Gs f p.1,Gs f p.2 with
  |true,true=>VF f r
  |_,_=>p::VF f r
def ad7 (o:FO)(f:Bool)(b:HP)(e:Env)(d:DM)(r:Pos):Inf:=match stepF e (HP.ov b (e9 f d r)).get r o with
 |some (out,wr)=>.op (fC wr) (trF e (HP.ov b (e9 f d r)).get r o) (pE f r wr) (qF e r o) out
 |none=>.op none [] true .fail .unk
def ae8 (o:FO)(f:OpC):DOp:=λck b _ e d r n k=>f ck b e d r λj l g=>k (ad7 o false b e d r) j l g n
def okK (b:HP)(d:DM)(f:Option (Pos×EO))(k:RX):RX:=Option.rec (motive:=λ_=>RX) k (λp=>bC (DH (hG (.ov b d) p.1)) .no k) f
def clK (f:Bool)(d:DM)(r:Pos)(k:DM→RX):RX:=Bool.rec (motive:=λ_=>RX) (k d) (dSK r .none d k) f
def sPi (f:Bool)(r:Pos)(k:Pos→RX):RX:=Bool.rec (motive:=λ_=>RX) (k r) (sPK r k) f
def anq (o:FO)(j:Bool)(f:List TV→Pos→Q)(C:Env→List TV)(g:St'):DOp:=λ_ b _ e d r n k=>clK j d r λp=>qK b p (f (C e) r) λout l=>okK b p l (sWK l d (λP=>sPi j r λJ=>k (ad7 o j b e d r) (g out e) P J n))
def ae6 (o:FO)(f:Bool):DOp:=λ_ b _ e d r n k=>match stepF e (HP.ov b (e9 f d r)).get r o with
 |some (out,wr)=>bif okW (HP.ov b (e9 f d r)).get wr then k (ad7 o f b e d r) (bn e o.dst out) (tJ d wr) (dc f r) n else .no
 |none=>.no
def Oi (ck:Callk)(b:HP)(j:List Pos)(t:Tgt)(g:List TV)(d:DM)(n:Pos)(k:Inf→TV→DM→Pos→RX):RX:=RCx (ck.call (.ov b d) t g .leaf n) λout f l=>bC (sV f j) (k (.call (.ov b d) f) out (mX f d) l) .no
def afb (ck:Callk)(b:HP)(g:List Pos)(f:List TV)(d:DM)(n:Pos)(k:Inf→TV→DM→Pos→RX):RX:=match cX (HP.ov b d).get f with
 |some (t,f)=>Oi ck b g t f d n k
 |none=>.no
def aly (x:Gt)(v:Env→List TV)(g:St'):DOp:=λck b j e d r n k=>asC (x e) λc=>CV.rec (motive:=λ_=>RX) (λ_=>.no) (λ_ _=>.no) (λ_=>.no) .no (λ_ _ _=>.no) (λ_=>.no) .no (λ_ _ _ _ _=>.no) (λ_=>.no) .no (λ_=>.no) .no (λf=>Oi ck b j (.fn f) (v e) d n λi out d n=>k i (g out e) d r n) (λp=>afb ck b j (.pv (.one (.clo p))::v e) d n λi out d n=>k i (g out e) d r n) .no (λ_=>.no) (λ_=>.no) c
def dGd (g:Gt)(w:Bool)(j:St')(f:DOp):DOp:=λck b l e d r n k=>TV.rec (motive:=λ_=>RX) .no (λq=>PV.rec (motive:=λ_=>RX) (λc=>CV.rec (motive:=λ_=>RX) (λt=>bC (Bool.rec (motive:=λ_=>Bool) (Bool.rec (motive:=λ_=>Bool) true false t) t w) (f ck b l e d r n k) (k (.op none [] true .fail .unk) (j (.tup []) e) d r n)) (λ_ _=>.no) (λ_=>.no) .no (λ_ _ _=>.no) (λ_=>.no) .no (λ_ _ _ _ _=>.no) (λ_=>.no) .no (λ_=>.no) .no (λ_=>.no) (λ_=>.no) .no (λ_=>.no) (λ_=>.no) c) (λ_=>.no) q) (λ_=>k (.op none [] true .fail .unk) (j (.tup []) e) d r n) (g e)
def dC1 (args:List Src)(f:Option Pos):BD1:=match args with
 |[]=>.mk λ_ _ _ _ _ _ _ _=>.no
 |x::r=>BG.rec (motive:=λ_=>BD1) (λx=>BL.rec (motive:=λ_=>BD1) (λv=>BS.rec (motive:=λ_=>BD1) (λd=>.mk (aly x v d)) (dB f)) (vsB r)) (vB x)
def dO1 (o:OP):BD1:=match o with
 |.op ⟨k,args,j,g⟩ al=>(match KE (.op ⟨k,args,j,g⟩ al)with
  |true=>BO.rec (motive:=λ_=>BD1) (λf=>.mk (ae8 ⟨k,args,j,g⟩ f)) (cO1 (.op ⟨k,args,j,g⟩ al))
  |false=>(match g with
   |none=>BE.rec (motive:=λ_=>BD1) (λf=>BL.rec (motive:=λ_=>BD1) (λv=>BS.rec (motive:=λ_=>BD1) (λd=>.mk (anq ⟨k,args,j,none⟩ al f v d)) (dB j)) (vsB args)) (eB k)
   |some p=>.mk (ae6 ⟨k,args,j,some p⟩ al)))
 |.call args j g=>(match g with
  |none=>dC1 args j
  |some (p,w)=>BD1.rec (motive:=λ_=>BD1) (λf=>BG.rec (motive:=λ_=>BD1) (λg=>BS.rec (motive:=λ_=>BD1) (λd=>.mk (dGd g w d f)) (dB j)) (gB p)) (dC1 args j))
 |_=>.mk λ_ _ _ _ _ _ _ _=>.no
def dOs:List OP→BD
 |[]=>.mk λ_ _ _ e d _ n k=>k [] e d n
 |o::l=>BD1.rec (motive:=λ_=>BD) (λf=>BD.rec (motive:=λ_=>BD) (λg=>.mk λck b j e d r n k=>f ck b j e d r n λi e d r n=>g ck b j e d r n λl e d n=>k (i::l) e d n) (dOs l)) (dO1 o)
def alN:List OP→Nat
 |[]=>0
 |.op _ true::l=>Nat.succ (alN l)
 |_::l=>alN l
def acV (m:Nat)(b:HP):DM→Pos→(List Pos→DM→Pos→RX)→RX:=Nat.rec (motive:=λ_=>DM→Pos→(List Pos→DM→Pos→RX)→RX) (λd n k=>k [] d n) (λ_ j d n k=>frK b d n (dSK n .res d λp=>sPK n λf=>j p f λl r g=>k (n::l) r g)) m
def amf (l:List Inf)(ps:List (Nat×Nat))(k:RX):RX:=List.rec (motive:=λ_=>RX) k (λp _ f=>bC (gg l p) f .no) ps
def drF (m:Nat)(ps:List (Nat×Nat))(g:an3):Clo:=λck _ b e d n k=>acV m b d n λf p j=>g ck b f e p n j λl e d n=>amf l ps (k .normal e d n)
def aiH (m:Nat)(ps:List (Nat×Nat)):Bool:=ps.all λp=>Nat.blt p.1 m&&Nat.blt p.2 m
def dFc (j:List OP)(ps:List (Nat×Nat)):BC:=match Wm j&&aiH j.length ps with
 |true=>BO.rec (motive:=λ_=>BC) (λf=>.mk (nV f)) (cOs j)
 |false=>BD.rec (motive:=λ_=>BC) (λg=>.mk (drF (alN j) (VF j ps) g)) (dOs j)
def fc:FC→BC
 |.skip=>.mk λ_ _ _ e d n k=>k .normal e d n
 |.region g=>BO.rec (motive:=λ_=>BC) (λf=>.mk (nV f)) (cOs g)
 |.drawn g ps=>dFc g ps
 |.seq x y=>c2 al0 (fc x) (fc y)
 |.cond c x y=>BG.rec (motive:=λ_=>BC) (λc=>c2 (afg c) (fc x) (fc y)) (vB c)
 |.block id x=>c1 (Wd id) (fc x)
 |.loop x=>c1 als (fc x)
 |.exit id=>.mk λ_ _ _ e d n k=>k (.exit id) e d n
 |.ret=>.mk λ_ _ _ e d n k=>k .ret e d n
 |c=>.mk λck j b e d n k=>bX (exec ck j c b e d n) k
inductive FJ where
 |no
 |ok (code:Clo) (res:List FR) (nt:Nat)
def fj (g:FuncId→Option Fi)(f:FuncId):FJ:=match g f with
 |some x=>BC.rec (motive:=λ_=>FJ) (λc=>.ok c x.res x.nt) (fc x.code)
 |none=>.no
abbrev Tb:=FuncId→HP→List TV→DM→Pos→RC
def noTb:Tb:=λ_ _ _ _ _=>.no
def UK (a:RC)(b:RC):RC:=match a with
 |.no=>b
 |.ok v d n=>.ok v d n
def mkT (p:Tb)(r:FuncId→Option Fi)(g:Nat):Nat→Yk→Ck
 |0,l,b,t,args,d,n=>match t with
  |.yld j=>l b j args d n
  |.fn _=>.no
 |dp+1,l,b,t,args,d,n=>match t with
  |.yld j=>l b j args d n
  |.fn f=>UK (p f b args d n) (match r f with
   |some x=>match Nat.ble args.length x.nt with
    |true=>Zr b x.res (exec (Ec (mkT p r g dp) l) g x.code b (pz args .e .leaf) d n)
    |false=>.no
   |none=>.no)
def ofA (l:List TV):Env→Pos→Env:=List.rec (motive:=λ_=>Env→Pos→Env) (λe _=>e) (λa _ f e p=>f (BS.rec (motive:=λ_=>Env) (λs=>s a e) (sB p)) (sP p)) l
def lnT (l:List TV):Nat:=List.rec (motive:=λ_=>Nat) 0 (λ_ _ f=>Nat.add f 1) l
def mkR (p:Tb)(J:FuncId→Option Fi)(g:Nat):Nat→Yk→Ck:=λP=>Nat.rec (motive:=λ_=>Yk→Ck)
 (λl b t args d n=>Tgt.rec (motive:=λ_=>RC) (λ_=>.no) (λj=>l b j args d n) t)
 (λ_ C l b t args d n=>Tgt.rec (motive:=λ_=>RC) (λf=>RC.rec (motive:=λ_=>RC) (FJ.rec (motive:=λ_=>RC) .no (λc res r=>Bool.rec (motive:=λ_=>RC) .no (Zr b res (c (Ec C l) g b (ofA args .leaf .e) d n λx e d n=>.ok x e d n)) (Nat.ble (lnT args) r)) (fj J f)) (λv d n=>.ok v d n) (p f b args d n)) (λj=>l b j args d n) t) P
open Go Go.RowKit
def RV:∀p:Pos,gB p = .mk (λe=>PM.get .unk e p)
 |.e=>by show BG.mk vl=_;congr 1;funext e;cases e <;> rfl
 |.o p=>by show BG.rec (motive:=λ_=>BG) (λg=>.mk λt=>g (lf t)) (gB p)=_;rw[RV p];show BG.mk (λt=>PM.get .unk (lf t) p)=_;congr 1;funext e;cases e <;> rfl
 |.i p=>by show BG.rec (motive:=λ_=>BG) (λg=>.mk λt=>g (rt t)) (gB p)=_;rw[RV p];show BG.mk (λt=>PM.get .unk (rt t) p)=_;congr 1;funext e;cases e <;> rfl
def WV:∀p:Pos,sB p = .mk (λx t=>PM.set .unk p t x)
 |.e=>by show BS.mk _=_;congr 1;funext x e;cases e <;> rfl
 |.o p=>by show BS.rec (motive:=λ_=>BS) (λs=>.mk λx t=>PM.rec (motive:=λ_=>Env) (.node (s x .leaf) .unk .leaf) (λl a r _ _=>.node (s x l) a r) t) (sB p)=_;rw[WV p];show BS.mk _=_;congr 1;funext x e;cases e <;> rfl
 |.i p=>by show BS.rec (motive:=λ_=>BS) (λs=>.mk λx t=>PM.rec (motive:=λ_=>Env) (.node .leaf .unk (s x .leaf)) (λl a r _ _=>.node l a (s x r)) t) (sB p)=_;rw[WV p];show BS.mk _=_;congr 1;funext x e;cases e <;> rfl
def xy (s:Src):vB s = .mk (λe=>bA e s):=by
 cases s with
 |t p=>exact RV p
 |c v=>rfl
def Bq (d:Option Pos):dB d = .mk (λv e=>bn e d v):=by
 cases d with
 |none=>rfl
 |some p=>exact WV p
def Mn:∀l:List Src,vsB l = .mk (λe=>bj e l)
 |[]=>rfl
 |s::l=>by show BG.rec (motive:=λ_=>BL) (λg=>BL.rec (motive:=λ_=>BL) (λh=>.mk λe=>g e::h e) (vsB l)) (vB s)=_;rw[Mn l,xy s];rfl
def afa:∀(k:Pos) (d:DM),dG k d=PM.get none d k
 |.e,d=>by cases d <;> rfl
 |.o k,d=>by show dG k (dlf d)=_;rw[afa k];cases d <;> rfl
 |.i k,d=>by show dG k (drt d)=_;rw[afa k];cases d <;> rfl
def pK (o:EO):∀(k:Pos) (d:DM) (K:DM→RX),dSK k o d K=K (gz d k o)
 |.e,d,K=>by cases d <;> rfl
 |.o k,d,K=>by
  cases d with
  |leaf=>exact pK o k .leaf _
  |node l a r=>exact pK o k l _
 |.i k,d,K=>by
  cases d with
  |leaf=>exact pK o k .leaf _
  |node l a r=>exact pK o k r _
def yo:∀(p:Pos) (K:Pos→RX),sPK p K=K p.succ
 |.e,_=>rfl
 |.o _,_=>rfl
 |.i p,K=>yo p λq=>K (.o q)
def alh:∀p:Pos,sP p=p.succ
 |.e=>rfl
 |.o _=>rfl
 |.i p=>by show Pos.o (sP p)=_;rw[alh p];rfl
def Xh:∀p:Pos,pN p=p.num
 |.e=>rfl
 |.o p=>by show Nat.add (Nat.mul 2 (pN p)) 1=_;rw[Xh p];rfl
 |.i p=>by show Nat.add (Nat.mul 2 (pN p)) 2=_;rw[Xh p];rfl
def DL:∀(b:HP) (k:Pos),hG b k=b.get k
 |.nil,_=>rfl
 |.ov b d,k=>by show Option.rec (motive:=λ_=>EO) (hG b k) (λo=>o) (dG k d)=_;rw[DL b,afa];simp[HP.get];cases PM.get none d k <;> rfl
 |.cut b n,k=>by show Bool.rec (motive:=λ_=>EO) .none (hG b k) (Nat.blt (pN k) (pN n))=_;rw[DL b,Xh,Xh];simp[HP.get];cases Nat.blt k.num n.num <;> rfl
def HR (b:HP)(d:DM)(n:Pos)(k:RX):frK b d n k=bif bT true (HP.ov b d).get n then k else .no:=by unfold frK;rw[DL];simp[bT];cases(HP.ov b d).get n <;> rfl
def nM (t:Bool)(a b:RX):bC t a b=cond t a b:=by cases t <;> rfl
def alr (n:Int)(k:Int→RX):nI n k=k n:=by
 cases n with
 |ofNat m=>cases m <;> rfl
 |negSucc m=>cases m <;> rfl
def He (n:Nat)(k:Nat→RX):nN n k=k n:=by cases n <;> rfl
def B8 (f:Option (Pos×EO))(d:DM)(k:DM→RX):sWK f d k=k (tJ d f):=by
 cases f with
 |none=>rfl
 |some p=>exact pK p.2 p.1 d k
def Gq (b:HP)(d:DM)(k:TV→Option (Pos×EO)→RX):∀q:Q,qK b d q k=match q.run (HP.ov b d).get with
  |some (out,wr)=>k out wr
  |none=>.no
 |.fail=>rfl
 |.ret _ _=>rfl
 |.rd p f=>by show qK b d (f (hG (.ov b d) p)) k=_;rw[Gq b d k (f (hG (.ov b d) p)),DL];rfl
def D9 (o:OP):OpC:=λck b e d n k=>match bc ck b [o] e d n with
 |.ok e d n=>k e d n
 |.no=>.no
def Xa (o:FO)(f:Bool):D9 (.op o f)=cB o f:=by
 funext ck b e d n k;simp[D9,cB,bc];cases bT f (HP.ov b d).get n with
 |false=>rfl
 |true =>simp;cases stepF e (HP.ov b d).get n o <;> rfl
section
variable (x y z:Src)(r:Option Pos)
def bv (e:Env)(h:Pos→EO)(f:Pos)(k:K)(args:List Src):stepF e h f ⟨k,args,r,none⟩=(eI k (bj e args) f).run h:=rfl
def afU (k:K)(args:List Src):Yp (eI k) (λe=>bj e args) (λv e=>bn e r v)=cB ⟨k,args,r,none⟩ false:=by
 funext ck b e d n K;simp[Yp,cB,Gq,bv,bT];cases(eI k (bj e args) n).run (HP.ov b d).get with
 |none=>rfl
 |some p=>exact B8 _ _ _
def afT (k:K)(args:List Src):Yo (eI k) (λe=>bj e args) (λv e=>bn e r v)=cB ⟨k,args,r,none⟩ true:=by
 funext ck b e d n K;simp[Yo,cB,Gq,bv,HR];cases bT true (HP.ov b d).get n with
 |false=>rfl
 |true=>
  simp;cases(eI k (bj e args) n).run (HP.ov b d).get with
  |none=>rfl
  |some p=>simp[B8,yo];rfl
def akN:aoI (λe=>bA e x) (λv e=>bn e r v)=cB ⟨.mov,[x],r,none⟩ false:=rfl
def afF:afG (λe=>bA e x) (λe=>bA e y) (λe=>bA e z) (λv e=>bn e r v)=cB ⟨.pick,[x,y,z],r,none⟩ false:=by
 funext ck b e d n K;simp[afG,cB,bv,bT,eI,bj];generalize bA e x=v;obtain _|p|l:=v
 ·rfl
 ·obtain c|l:=p
  ·cases c with
   |bl t=>cases t <;> rfl
   |_=>rfl
  ·rfl
 ·rfl
def akL:anE (λe=>bA e x) (λv e=>bn e r v)=cB ⟨.un .not,[x],r,none⟩ false:=by
 funext ck b e d n K;simp[anE,cB,bv,bT,eI,bj];generalize bA e x=v;obtain _|p|l:=v
 ·rfl
 ·obtain c|l:=p
  ·cases c with
   |bl t=>cases t <;> rfl
   |_=>rfl
  ·rfl
 ·rfl
def afV (c:Nat):afW c (λe=>bA e x) (λv e=>bn e r v)=cB ⟨.fadr c,[x],r,none⟩ false:=by
 funext ck b e d n K;simp[afW,cB,bv,bT,eI,bj,He];generalize bA e x=v;obtain _|p|l:=v
 ·rfl
 ·obtain c|l:=p
  ·cases c <;> rfl
  ·rfl
 ·rfl
def adP:∀l:List Nat,lnN l=l.length
 |[]=>rfl
 |_::l=>by show Nat.add (lnN l) 1=_;rw[adP l];rfl
def NK:∀l:List CV,lnC l=l.length
 |[]=>rfl
 |_::l=>by show Nat.add (lnC l) 1=_;rw[NK l];rfl
def adO:∀l:List TV,lnT l=l.length
 |[]=>rfl
 |_::l=>by show Nat.add (lnT l) 1=_;rw[adO l];rfl
def afJ:afK (λe=>bA e x) (λv e=>bn e r v)=cB ⟨.lens,[x],r,none⟩ false:=by
 funext ck b e d n K;simp[afK,cB,bv,bT,eI,bj,He];generalize bA e x=v;obtain _|p|l:=v
 ·rfl
 ·obtain c|l:=p
  ·cases c with
   |str s =>simp[Lt,eY,uj,Q.run,asS,asC,adP];rfl
   |_=>rfl
  ·rfl
 ·rfl
def afL:afM (λe=>bA e x) (λv e=>bn e r v)=cB ⟨.lenl,[x],r,none⟩ false:=by
 funext ck b e d n K;simp[afM,cB,bv,bT,eI,bj,He];generalize bA e x=v;obtain _|p|l:=v
 ·rfl
 ·obtain c|l:=p
  ·cases c with
   |sl p g o n c =>simp[Lu,eY,uj,Q.run,asC];rfl
   |_=>rfl
  ·rfl
 ·rfl
def akM:anF (λe=>bA e x) (λv e=>bn e r v)=cB ⟨.nilchk,[x],r,none⟩ false:=by
 funext ck b e d n K;simp[anF,cB,bv,bT,eI,bj];generalize bA e x=v;obtain _|p|l:=v
 ·rfl
 ·obtain c|l:=p
  ·cases c <;> rfl
  ·rfl
 ·rfl
def Xq (k:PV→RX):∀(l:List PV) (i:Nat),ajp l i k=match l.drop i with
  |p::_=>k p
  |[]=>.no
 |[],i=>by simp[ajp]
 |a::l,0=>rfl
 |a::l,i+1=>by show ajp l i k=_;rw[Xq k l i];rfl
def afX (i:Nat):afY i (λe=>bA e x) (λv e=>bn e r v)=cB ⟨.ext i,[x],r,none⟩ false:=by
 funext ck b e d n K;simp[afY,cB,bv,bT,eI,bj,Xq];generalize bA e x=v;obtain _|p|l:=v
 ·rfl
 ·rfl
 ·simp[aaV,tuK];cases l.drop i <;> rfl
def Xr (k:Nat→RX):∀(l:List Nat) (i:Nat),ajq l i k=match l.drop i with
  |p::_=>k p
  |[]=>.no
 |[],i=>by simp[ajq]
 |a::l,0=>rfl
 |a::l,i+1=>by show ajq l i k=_;rw[Xr k l i];rfl
def afP:afQ (λe=>bA e x) (λe=>bA e y) (λv e=>bn e r v)=cB ⟨.idxs,[x,y],r,none⟩ false:=by
 funext ck b e d n K;simp[afQ,cB,bv,bT,eI,bj,He,Xr];generalize bA e x=v;generalize bA e y=u;obtain _|p|l:=v
 ·rfl
 ·obtain c|l:=p
  ·cases c with
   |str s=>
    obtain _|p|l:=u
    ·rfl
    ·obtain c|l:=p
     ·cases c with
      |int f i=>
       cases i with
       |ofNat i=>
        simp[Lv,asS,asC,asI];cases s.drop i with
        |nil=>rfl
        |cons c t=>simp[eY,uj,Q.run];rfl
       |negSucc i=>rfl
      |_=>rfl
     ·rfl
    ·rfl
   |_=>rfl
  ·rfl
 ·rfl
def afR (s:Nat):afS s (λe=>bA e x) (λe=>bA e y) (λv e=>bn e r v)=cB ⟨.idxl s,[x,y],r,none⟩ false:=by
 funext ck b e d n K;simp[afS,cB,bv,bT,eI,bj,He];generalize bA e x=v;generalize bA e y=u;obtain _|p|l:=v
 ·rfl
 ·obtain c|l:=p
  ·cases c with
   |sl p g o m c=>
    obtain _|p|l:=u
    ·rfl
    ·obtain c|l:=p
     ·cases c with
      |int f i=>
       cases i with
       |ofNat i =>simp[Lw,asL,asC,asI,nM];cases Nat.blt i m <;> rfl
       |negSucc i=>rfl
      |_=>rfl
     ·rfl
    ·rfl
   |_=>rfl
  ·rfl
 ·rfl
def xb (f:Int→Int→Bool)(fn:Nat→Nat→Bool)(op:BinOp)(T:∀k a b,IK op k a b=tS (f a b))(R:∀a b,fn a b=f (.ofNat a) (.ofNat b))(P:op ≠ .shl∧op ≠ .shr):S8 f fn op (λe=>bA e x) (λe=>bA e y) (λv e=>bn e r v)=cB ⟨.bin op,[x,y],r,none⟩ false:=by
 funext ck b e d n K;simp[S8,cB,bv,bT,eI,bj,Gq];generalize bA e x=v;generalize bA e y=u;have J:(match (tc op [v,u] n).run (HP.ov b d).get with|some (out,wr)=>sWK wr d λd=>K (bn e r out) d n|none=>RX.no)=(match (tc op [v,u] n).run (HP.ov b d).get with|some (out,wr)=>K (bn e r out) (tJ d wr) (dc false n)|none=>.no):=by
  cases(tc op [v,u] n).run (HP.ov b d).get with
  |none=>rfl
  |some p=>exact B8 _ _ _
 obtain _|p|l:=v
 ·rfl
 ·obtain c|l:=p
  ·cases c with
   |int j a=>
    simp[asI,asC];obtain _|p|l:=u
    ·rfl
    ·obtain c|l:=p
     ·cases c with
      |int C g=>
       have e1:tc op [.pv (.one (.int j a)),.pv (.one (.int C g))] n=bif kq j C then IK op j a g else .fail:=by
        cases op <;> first|rfl|exact absurd rfl P.1|exact absurd rfl P.2
       rw[e1,T];simp[nM];cases kq j C with
       |false=>rfl
       |true=>
        have U:i2 a g (λa g=>bif fn a g then K (bn e r (oB true)) d n else K (bn e r (oB false)) d n) (bif f a g then K (bn e r (oB true)) d n else K (bn e r (oB false)) d n)=K (bn e r (oB (f a g))) d n:=by
         cases a with
         |ofNat a=>
          cases g with
          |ofNat g =>show(bif fn a g then K (bn e r (oB true)) d n else K (bn e r (oB false)) d n)=_;rw[R];cases f (.ofNat a) (.ofNat g) <;> rfl
          |negSucc g=>show(bif f _ _ then _ else _)=_;cases f (.ofNat a) (.negSucc g) <;> rfl
         |negSucc a=>show(bif f _ _ then _ else _)=_;cases f (.negSucc a) g <;> rfl
        simp;rw[U];rfl
      |_=>rfl
     ·rfl
    ·rfl
   |_=>exact J
  ·rfl
 ·rfl
def abJ (s:Nat)(h:Nat.blt s 9223372036854775808=true):IntKind.wrap .i64 (.ofNat s) = .ofNat s:=by
 have h:=cD.1 h;have f:(s:Int)%(2^64:Int)=s:=Ω
 have g:IntKind.wrap .i64 (s:Int)=if (true&&decide ((s:Int)%(2^64:Int)≥(2^63:Int)))=true then(s:Int)%(2^64:Int)-(2^64:Int)else(s:Int)%(2^64:Int):=rfl
 show IntKind.wrap .i64 (s:Int)=(s:Int);rw[g,ο]
 ·exact f
 ·simp[f];omega
def XT {k:IntKind}(h:Vl k=true):k = .i64:=by cases k <;> first|rfl|cases h
def akS:anN (λe=>bA e x) (λe=>bA e y) (λv e=>bn e r v)=cB ⟨.bin .add,[x,y],r,none⟩ false:=by
 funext ck b e d n K;simp[anN,cB,bv,bT,eI,bj,Gq,alr,He];generalize bA e x=v;generalize bA e y=u;have J:(match (tc .add [v,u] n).run (HP.ov b d).get with|some (out,wr)=>sWK wr d λd=>K (bn e r out) d n|none=>RX.no)=(match (tc .add [v,u] n).run (HP.ov b d).get with|some (out,wr)=>K (bn e r out) (tJ d wr) (dc false n)|none=>.no):=by
  cases(tc .add [v,u] n).run (HP.ov b d).get with
  |none=>rfl
  |some p=>exact B8 _ _ _
 obtain _|p|l:=v
 ·rfl
 ·obtain c|l:=p
  ·cases c with
   |int f a=>
    simp[asI,asC];obtain _|p|l:=u
    ·rfl
    ·obtain c|l:=p
     ·cases c with
      |int P g=>
       show bC _ _ _=match (cond (kq f P) (IK .add f a g) .fail).run (HP.ov b d).get with|some (out,wr)=>_|none=>_
       simp[nM];cases kq f P with
       |false=>rfl
       |true=>
        simp[IK,eY,uj,Q.run];have tail:∀m:Int,m=f.wrap (a+g)→K (bn e r (oI f m)) d n=K (bn e r (.pv (.one (.int f (f.wrap (a+g)))))) (tJ d none) (dc false n):=λm R=>by rw[R];rfl
        cases a with
        |negSucc a=>exact tail _ rfl
        |ofNat a=>
         cases g with
         |negSucc g=>exact tail _ rfl
         |ofNat g=>
          show(bif Vl f then bif Nat.blt (Nat.add a g) 9223372036854775808 then _ else _ else _)=_;cases C:Vl f with
          |false=>exact tail _ rfl
          |true=>
           have:=XT C;subst this;simp;cases j:Nat.blt (Nat.add a g) 9223372036854775808 with
           |false=>exact tail _ rfl
           |true=>exact tail _ (abJ _ j).symm
      |_=>rfl
     ·rfl
    ·rfl
   |_=>exact J
  ·rfl
 ·rfl
def akJ:anD (λe=>bA e x) (λe=>bA e y) (λv e=>bn e r v)=cB ⟨.bin .sub,[x,y],r,none⟩ false:=by
 funext ck b e d n K;simp[anD,cB,bv,bT,eI,bj,Gq,alr,He];generalize bA e x=v;generalize bA e y=u;have P:(match (tc .sub [v,u] n).run (HP.ov b d).get with|some (out,wr)=>sWK wr d λd=>K (bn e r out) d n|none=>RX.no)=(match (tc .sub [v,u] n).run (HP.ov b d).get with|some (out,wr)=>K (bn e r out) (tJ d wr) (dc false n)|none=>.no):=by
  cases(tc .sub [v,u] n).run (HP.ov b d).get with
  |none=>rfl
  |some p=>exact B8 _ _ _
 obtain _|p|l:=v
 ·rfl
 ·obtain c|l:=p
  ·cases c with
   |int g a=>
    simp[asI,asC];obtain _|p|l:=u
    ·rfl
    ·obtain c|l:=p
     ·cases c with
      |int R f=>
       show bC _ _ _=match (cond (kq g R) (IK .sub g a f) .fail).run (HP.ov b d).get with|some (out,wr)=>_|none=>_
       simp[nM];cases kq g R with
       |false=>rfl
       |true=>
        simp[IK,eY,uj,Q.run];have tail:∀m:Int,m=g.wrap (a-f)→K (bn e r (oI g m)) d n=K (bn e r (.pv (.one (.int g (g.wrap (a-f)))))) (tJ d none) (dc false n):=λm T=>by rw[T];rfl
        cases a with
        |negSucc a=>exact tail _ rfl
        |ofNat a=>
         cases f with
         |negSucc f=>exact tail _ rfl
         |ofNat f=>
          show(bif Nat.ble f a then bif Vl g then bif Nat.blt a 9223372036854775808 then _ else _ else _ else _)=_;cases C:Nat.ble f a with
          |false=>exact tail _ rfl
          |true=>
           simp;cases J:Vl g with
           |false=>exact tail _ rfl
           |true=>
            have:=XT J;subst this;simp;cases j:Nat.blt a 9223372036854775808 with
            |false=>exact tail _ rfl
            |true=>
             have C:=bD.1 C;have j:=cD.1 j;have U:(Int.ofNat a-Int.ofNat f:Int)=Int.ofNat (Nat.sub a f):=by show(a:Int)-(f:Int)=((a-f:Nat):Int);omega
             refine tail _ ?_;rw[U];exact(abJ _ (cD.2 (as3 (Nat.sub_le a f) j))).symm
      |_=>rfl
     ·rfl
    ·rfl
   |_=>exact P
  ·rfl
 ·rfl
def M6:∀(t:PT Ch) (i:Nat),ptG t i=t.get dch i
 |.leaf,_=>rfl
 |.node l a r,0=>rfl
 |.node l a r,i+1=>by
  show Bool.rec (motive:=λ_=>Ch) (ptG r (Nat.div i 2)) (ptG l (Nat.div i 2)) (Nat.beq (Nat.mod i 2) 0)=_;rw[M6 l,M6 r];show _=match Nat.beq (i%2) 0 with|true=>l.get dch (i/2)|false=>r.get dch (i/2)
  show Bool.rec (motive:=λ_=>Ch) (r.get dch (i/2)) (l.get dch (i/2)) (Nat.beq (i%2) 0)=_;cases Nat.beq (i%2) 0 <;> rfl
def VS:∀(l:List CV) (n:Nat),drC l n=l.drop n
 |[],n=>by simp[drC]
 |_::_,0=>rfl
 |_::l,n+1=>VS l n
def TK:∀(l:List CV) (n:Nat),tkC l n=l.take n
 |[],n=>by simp[tkC]
 |_::_,0=>rfl
 |a::l,n+1=>by show a::tkC l n=_;rw[TK l n];rfl
def agi (m:List CV):∀l:List CV,apC l m=l++m
 |[]=>rfl
 |a::l=>by show a::apC l m=_;rw[agi m l];rfl
def alX (g:List CV)(f:Nat)(new:List CV):spC g f new=dF g f new:=by simp only[spC,dF,agi,TK,VS,NK,k_];rfl
def UE (x:Ch):∀(f:Nat) (t:PT Ch) (i:Nat),ptS f t i x=PT.set dch f t i x
 |0,_,_=>rfl
 |f+1,t,0=>by cases t <;> rfl
 |f+1,t,i+1=>by
  show Bool.rec (motive:=λ_=>PT Ch) (.node (pgL t) (pgV t) (ptS f (pgR t) (Nat.div i 2) x)) (.node (ptS f (pgL t) (Nat.div i 2) x) (pgV t) (pgR t)) (Nat.beq (Nat.mod i 2) 0)=_;rw[UE x f,UE x f];show Bool.rec (motive:=λ_=>PT Ch) (.node (pgL t) (pgV t) (PT.set dch f (pgR t) (i/2) x)) (.node (PT.set dch f (pgL t) (i/2) x) (pgV t) (pgR t)) (Nat.beq (i%2) 0)=_;cases t with
  |leaf =>simp[PT.set];cases Nat.beq (i%2) 0 <;> rfl
  |node l a r =>simp[PT.set];cases Nat.beq (i%2) 0 <;> rfl
def ac7 (b:HP)(d:DM)(p:Pos)(g f m:Nat)(K:List CV→RX):rdK b d p g f m K=match (HP.ov b d).get p with
  |.row _ s r len j _=>bif Nat.ble g j&&Nat.blt (f/s) len then
    match r.get dch (f/s)with
    |⟨C,l⟩=>bif Nat.ble l g&&Nat.ble (f%s+m) s then K (C.drop (f%s))else .no
   else .no
  |_=>.no:=by
 unfold rdK;rw[DL];cases(HP.ov b d).get p with
 |row t s r len j fz=>
  show bC (Nat.ble g j) (bC (Nat.blt (f/s) len) (chK (ptG r (f/s)) λC l=>bC (Nat.ble l g) (bC (Nat.ble (f%s+m) s) (K (drC C (f%s))) .no) .no) .no) .no=_;simp[nM,M6,VS];cases Nat.ble g j with
  |false=>rfl
  |true=>
   cases Nat.blt (f/s) len with
   |false=>rfl
   |true=>
    simp;cases r.get dch (f/s)with
    |mk C l=>
     show(bif Nat.ble l g then(bif Nat.ble (f%s+m) s then _ else _)else _)=_;cases Nat.ble l g with
     |false=>rfl
     |true=>cases Nat.ble (f%s+m) s <;> rfl
 |_=>rfl
def Rq (h:Pos→EO)(s:Nat)(agg:Bool)(p:Pos)(g j:Nat)(f:Pos):(Ic s agg [.pv (.one (.ptr p g j))] f).run h=match h p with
  |.row _ l J len r _=>bif Nat.ble g r&&Nat.blt (j/l) len then
    match J.get dch (j/l)with
    |⟨P,C⟩=>bif Nat.ble C g&&Nat.ble (j%l+s) l then(match I4 agg ((P.drop (j%l)).take s)with|some p=>some (.pv p,none)|none=>none)else none
   else none
  |_=>none:=by
 simp[Ic,Q.run,Gp];cases h p with
 |row t l J len r fz=>
  simp only;cases(Nat.ble g r&&Nat.blt (j/l) len)with
  |false=>rfl
  |true=>
   simp;cases J.get dch (j/l)with
   |mk P C=>
    simp only;cases(Nat.ble C g&&Nat.ble (j%l+s) l)with
    |false=>rfl
    |true =>simp;cases I4 agg ((P.drop (j%l)).take s) <;> rfl
 |_=>rfl
def akP:anH (λe=>bA e x) (λv e=>bn e r v)=cB ⟨.load 1 false,[x],r,none⟩ false:=by
 funext ck b e d n K;simp[anH,cB,bv,bT,eI,bj,ac7];generalize bA e x=v;obtain _|p|l:=v
 ·rfl
 ·obtain c|l:=p
  ·cases c with
   |ptr p g f=>
    rw[Rq];simp[asR,asC];cases(HP.ov b d).get p with
    |row t j P len C fz=>
     simp only;cases(Nat.ble g C&&Nat.blt (f/j) len)with
     |false=>rfl
     |true=>
      simp;cases P.get dch (f/j)with
      |mk R J=>
       simp only;cases(Nat.ble J g&&Nat.ble (f%j+1) j)with
       |false=>rfl
       |true =>simp;cases R.drop (f%j) <;> rfl
    |_=>rfl
   |_=>rfl
  ·rfl
 ·rfl
def akO (s:Nat):anG s (λe=>bA e x) (λv e=>bn e r v)=cB ⟨.load s true,[x],r,none⟩ false:=by
 funext ck b e d n K;simp[anG,cB,bv,bT,eI,bj,ac7,TK];generalize bA e x=v;obtain _|p|l:=v
 ·rfl
 ·obtain c|l:=p
  ·cases c with
   |ptr p g f=>
    rw[Rq];simp[asR,asC];cases(HP.ov b d).get p with
    |row t j P len C fz=>
     simp only;cases(Nat.ble g C&&Nat.blt (f/j) len)with
     |false=>rfl
     |true=>
      simp;cases P.get dch (f/j)with
      |mk R J=>
       simp only;cases(Nat.ble J g&&Nat.ble (f%j+s) j)with
       |false=>rfl
       |true=>rfl
    |_=>rfl
   |_=>rfl
  ·rfl
 ·rfl
def afA (p:PV):clP p=p.cells:=by cases p <;> rfl
def Y7 (h:Pos→EO)(s:Nat)(p:Pos)(g j:Nat)(v:PV)(f:Pos):(CF s [.pv (.one (.ptr p g j)),.pv v] f).run h=bif Nat.beq v.cells.length s then(match h p with
  |.row t l C len r fz=>bif Nat.beq g r&&Nat.blt (j/l) len&&Nat.ble (j%l+v.cells.length) l&&RW fz then
    match C.get dch (j/l)with
    |⟨J,_⟩=>some (.unk,some (p,.row t l (C.set dch 32 (j/l) ⟨dF J (j%l) v.cells,r⟩) len r fz))
   else none
  |_=>none)else none:=by
 simp[CF];cases Nat.beq v.cells.length s with
 |false=>rfl
 |true=>
  simp[Q.run,Fd];cases h p with
  |row t l C len r fz=>
   simp only;cases(Nat.beq g r&&Nat.blt (j/l) len&&Nat.ble (j%l+v.cells.length) l&&RW fz)with
   |false=>rfl
   |true=>
    simp;cases C.get dch (j/l)with
    |mk J P=>rfl
  |_=>rfl
def abn (m:Nat):V7 m (λe=>bA e x) (λe=>bA e y) (λv e=>bn e r v)=cB ⟨.store m,[x,y],r,none⟩ false:=by
 funext ck b e d n K;simp[V7,cB,bv,bT,eI,bj,DL,afA,NK,pK];generalize bA e x=v;generalize bA e y=u;obtain _|p|l:=v
 ·rfl
 ·obtain c|l:=p
  ·cases c with
   |ptr p g f=>
    obtain _|u|l:=u
    ·rfl
    ·rw[Y7];simp[asR,asC,asP,nM];cases J:Nat.beq u.cells.length m with
     |false=>rfl
     |true=>
      have J:u.cells.length=m:=κ J;simp;cases(HP.ov b d).get p with
      |row t j P len C fz=>
       simp[roW,J];cases Nat.beq g C with
       |false=>rfl
       |true=>
        show(bif Nat.blt (f/j) len then(bif Nat.ble (f%j+m) j then fzK fz (chK (ptG P (f/j)) λR _=>K (bn e r .unk) (gz d p (.row t j (ptS 32 P (f/j) ⟨spC R (f%j) u.cells,C⟩) len C fz)) n)else .no)else .no)=_;cases Nat.blt (f/j) len with
        |false=>rfl
        |true=>
         cases Nat.ble (f%j+m) j with
         |false=>rfl
         |true=>
          simp[UE,alX,M6];cases fz with
          |no=>
           simp[fzK,RW];cases P.get dch (f/j)with
           |mk R T=>rfl
          |_=>rfl
      |_=>rfl
    ·rfl
   |_=>obtain _|u|l:=u <;> rfl
  ·obtain _|u|l:=u <;> rfl
 ·obtain _|u|l:=u <;> rfl
def abo (t:TypeId)(f:List CV):Wa t f (λv e=>bn e r v)=cB ⟨.alloc t f,[],r,none⟩ true:=by funext ck b e d n K;simp[Wa,cB,bv,HR,pK,yo];cases bT true (HP.ov b d).get n <;> rfl
def akR (t:TypeId)(s:Nat):anM t s (λe=>bA e x) (λv e=>bn e r v)=cB ⟨.box t s,[x],r,none⟩ true:=by
 funext ck b e d n K;simp[anM,cB,bv,HR,pK,yo,bj,eI,afA,NK];cases bT true (HP.ov b d).get n with
 |false=>rfl
 |true=>
  simp;generalize bA e x=v;obtain _|p|l:=v
  ·rfl
  ·simp[asP,nM,aeW];cases Nat.beq p.cells.length s <;> rfl
  ·rfl
end
def aeX (k:K):eB k = .mk (eI k):=by cases k <;> rfl
def xO (f:Gt→St'→OpC)(x:Src)(r:Option Pos):m1 f x r = .mk (f (λe=>bA e x) (λv e=>bn e r v)):=by unfold m1;rw[xy,Bq]
def uv (f:Gt→Gt→St'→OpC)(x y:Src)(r:Option Pos):m2 f x y r = .mk (f (λe=>bA e x) (λe=>bA e y) (λv e=>bn e r v)):=by unfold m2;rw[xy,xy,Bq]
def aox (f:Gt→Gt→Gt→St'→OpC)(x y z:Src)(r:Option Pos):m3 f x y z r = .mk (f (λe=>bA e x) (λe=>bA e y) (λe=>bA e z) (λv e=>bn e r v)):=by unfold m3;rw[xy,xy,xy,Bq]
def adL (f:(Env→List TV)→St'→OpC)(l:List Src)(r:Option Pos):mL f l r = .mk (f (λe=>bj e l) (λv e=>bn e r v)):=by unfold mL;rw[Mn,Bq]
def ajX (k:K)(args:List Src)(r:Option Pos):am5 k args r = .mk (cB ⟨k,args,r,none⟩ false):=by unfold am5;rw[aeX];show mL (Yp (eI k)) args r=_;rw[adL,afU]
def ajW (k:K)(args:List Src)(r:Option Pos):am4 k args r = .mk (cB ⟨k,args,r,none⟩ true):=by unfold am4;rw[aeX];show mL (Yo (eI k)) args r=_;rw[adL,afT]
def ajr (b:Bool):(Bool.rec (motive:=λ_=>Bool) true false b:Bool) = !b:=by cases b <;> rfl
def anJ (k:K)(args:List Src)(r:Option Pos):cK0 k args r = .mk (cB ⟨k,args,r,none⟩ false):=by
 unfold cK0;split
 ·rw[xO,akN]
 ·rw[aox,afF]
 ·rw[uv,afP]
 ·rw[xO,afJ]
 ·rw[xO,afL]
 ·rw[xO,afV]
 ·rw[uv,abn]
 ·rw[uv,afR]
 ·rw[xO,akP]
 ·rw[xO,akO]
 ·rw[xO,akM]
 ·rw[xO,afX]
 ·rw[xO,akL]
 ·rw[uv,xb _ _ _ _ _ _ (λ_ _ _=>rfl) (λa b=>by
   cases h:Nat.beq a b with
   |true=>rw[κ h];simp
   |false=>have:=E_ h;symm;simp;omega) ⟨by decide,by decide⟩]
 ·rw[uv,xb _ _ _ _ _ _ (λ_ _ _=>rfl) (λa b=>by
   rw[ajr];cases h:Nat.beq a b with
   |true=>rw[κ h];simp
   |false=>have:=E_ h;symm;simp;omega) ⟨by decide,by decide⟩]
 ·rw[uv,xb _ _ _ _ _ _ (λ_ _ _=>rfl) (λa b=>by
   cases h:Nat.blt a b with
   |true=>have:=cD.1 h;symm;simp;omega
   |false=>
    have:¬a<b:=λq=>by rw[cD.2 q]at h;cases h
    symm;simp;omega) ⟨by decide,by decide⟩]
 ·rw[uv,xb _ _ _ _ _ _ (λ_ _ _=>rfl) (λa b=>by
   cases h:Nat.ble a b with
   |true=>have:=bD.1 h;symm;simp;omega
   |false=>
    have:¬a≤b:=λq=>by rw[bD.2 q]at h;cases h
    symm;simp;omega) ⟨by decide,by decide⟩]
 ·rw[uv,xb _ _ _ _ _ _ (λ_ _ _=>rfl) (λa b=>by
   cases h:Nat.blt b a with
   |true=>have:=cD.1 h;symm;simp;omega
   |false=>
    have:¬b<a:=λq=>by rw[cD.2 q]at h;cases h
    symm;simp;omega) ⟨by decide,by decide⟩]
 ·rw[uv,xb _ _ _ _ _ _ (λ_ _ _=>rfl) (λa b=>by
   cases h:Nat.ble b a with
   |true=>have:=bD.1 h;symm;simp;omega
   |false=>
    have:¬b≤a:=λq=>by rw[bD.2 q]at h;cases h
    symm;simp;omega) ⟨by decide,by decide⟩]
 ·rw[uv,akS]
 ·rw[uv,akJ]
 ·exact ajX _ _ _
def anI (k:K)(args:List Src)(r:Option Pos):cK1 k args r = .mk (cB ⟨k,args,r,none⟩ true):=by
 unfold cK1;split
 ·rw[Bq];show BO.mk _=_;rw[abo]
 ·rw[xO,akR]
 ·exact ajW _ _ _
def afN (k:K)(args:List Src)(r:Option Pos)(f:Bool):cKa k args r f = .mk (cB ⟨k,args,r,none⟩ f):=by
 cases f with
 |false=>exact anJ k args r
 |true=>exact anI k args r
def anK (p:Pos)(w f:Bool)(k:K)(args:List Src)(r:Option Pos):cGd (λe=>PM.get .unk e p) w f (λv e=>bn e r v) (cB ⟨k,args,r,none⟩ f)=cB ⟨k,args,r,some (p,w)⟩ f:=by
 funext ck b e d n K;simp[cGd,HR,yo];have C:cB ⟨k,args,r,some (p,w)⟩ f ck b e d n K=bif bT f (HP.ov b d).get n then(match (match (match e.get .unk p with
   |.pv (.one (.bl b))=>some (match w with|true=>b|false=>!b)
   |.tup _=>some false
   |_=>none)with
   |some J=>match J with
    |true=>(eI k (bj e args) n).run (HP.ov b d).get
    |false=>some (.tup [],none)
   |none=>none)with
  |some (out,wr)=>K (bn e r out) (tJ d wr) (dc f n)
  |none=>.no)else .no:=rfl
 rw[C];have j:∀K,cB ⟨k,args,r,none⟩ f ck b e d n K=bif bT f (HP.ov b d).get n then(match (eI k (bj e args) n).run (HP.ov b d).get with
  |some (out,wr)=>K (bn e r out) (tJ d wr) (dc f n)
  |none=>.no)else .no:=λ_=>rfl
 have g:(Bool.rec (motive:=λ_=>RX) (K (bn e r (.tup [])) d n) (bif bT true (HP.ov b d).get n then K (bn e r (.tup [])) d n.succ else .no) f:RX)=bif bT f (HP.ov b d).get n then K (bn e r (.tup [])) d (dc f n)else .no:=by cases f <;> rfl
 generalize PM.get .unk e p=v;obtain _|q|l:=v
 ·show RX.no=_;cases bT f (HP.ov b d).get n <;> rfl
 ·obtain c|l:=q
  ·cases c with
   |bl t=>
    simp[nM];cases w <;> cases t <;> first|exact j K|exact g
   |_=>show RX.no=_;cases bT f (HP.ov b d).get n <;> rfl
  ·show RX.no=_;cases bT f (HP.ov b d).get n <;> rfl
 ·exact g
def aek (p:Pos)(w g:Bool)(r:Option Pos)(f:OpC):gdB p w g r (.mk f) = .mk (cGd (λe=>PM.get .unk e p) w g (λv e=>bn e r v) f):=by unfold gdB;rw[RV,Bq]
def ZA (args:List Src)(r:Option Pos)(ck:Callk)(b:HP)(e:Env)(d:DM)(n:Pos)(k:Ko):D9 (.call args r none) ck b e d n k=match cX (HP.ov b d).get (bj e args)with
  |some (t,f)=>match ck.call b t f d n with
   |.ok out j g=>k (bn e r out) j g
   |.no=>.no
  |none=>.no:=by
 simp[D9,bc,gd];cases cX (HP.ov b d).get (bj e args)with
 |none=>rfl
 |some p =>obtain⟨t,f⟩:=p;simp only;cases ck.call b t f d n <;> rfl
def af2 (args:List Src)(r:Option Pos):cC1 args r = .mk (D9 (.call args r none)):=by
 unfold cC1;split
 ·congr 1
 next x l=>
  rw[xy];show mL (af1 (λe=>bA e x)) l r=_;rw[adL];congr 1;funext ck b e d n K;rw[ZA];simp[af1,bj];generalize bA e x=v;obtain _|p|m:=v
  ·rfl
  ·obtain c|m:=p
   ·cases c with
    |fnc f =>simp[asC,cX,RCx];cases ck.call b (.fn f) (bj e l) d n <;> rfl
    |clo q=>
     simp[asC,af0,RCx];cases cX (HP.ov b d).get (.pv (.one (.clo q))::bj e l)with
     |none=>rfl
     |some p =>obtain⟨t,g⟩:=p;simp only;cases ck.call b t g d n <;> rfl
    |_=>rfl
   ·rfl
  ·rfl
def UA (args:List Src)(r:Option Pos)(p:Pos)(w:Bool):cGd (λe=>PM.get .unk e p) w false (λv e=>bn e r v) (D9 (.call args r none))=D9 (.call args r (some (p,w))):=by
 funext ck b e d n K;have f:D9 (.call args r (some (p,w))) ck b e d n K=match (match e.get .unk p with
   |.pv (.one (.bl b))=>some (match w with|true=>b|false=>!b)
   |.tup _=>some false
   |_=>none)with
   |some true=>D9 (.call args r none) ck b e d n K
   |some false=>K (bn e r (.tup [])) d n
   |none=>.no:=by
  simp[D9,bc];show(match (match gd e (some (p,w))with|some true=>_|some false=>_|none=>_:RS)with|.ok e d n=>K e d n|.no=>RX.no)=match gd e (some (p,w))with|some true=>_|some false=>_|none=>_
  cases gd e (some (p,w))with
  |none=>rfl
  |some t=>cases t <;> rfl
 rw[f];simp[cGd];generalize PM.get .unk e p=v;obtain _|q|l:=v
 ·rfl
 ·obtain c|l:=q
  ·cases c with
   |bl t =>simp[nM];cases w <;> cases t <;> rfl
   |_=>rfl
  ·rfl
 ·rfl
def afI (o:OP):cO1 o = .mk (D9 o):=by
 unfold cO1;split
 next k args r g al=>
  rw[Xa];split
  ·exact afN k args r al
  next p w=>rw[afN,aek,anK]
 next args r g=>
  split
  ·exact af2 args r
  next p w=>rw[af2,aek,UA]
 ·rfl
def Qa (ck:Callk)(b:HP)(o:OP)(l:List OP)(e:Env)(d:DM)(n:Pos):bc ck b (o::l) e d n=match bc ck b [o] e d n with
  |.ok e d n=>bc ck b l e d n
  |.no=>.no:=by
 cases o with
 |op o j=>
  simp[bc];cases bT j (HP.ov b d).get n with
  |false=>rfl
  |true =>simp;cases stepF e (HP.ov b d).get n o <;> rfl
 |call args r g=>
  simp[bc];cases gd e g with
  |none=>rfl
  |some t=>
   cases t with
   |false=>rfl
   |true=>
    simp only;cases cX (HP.ov b d).get (bj e args)with
    |none=>rfl
    |some p =>obtain⟨t,f⟩:=p;simp only;cases ck.call b t f d n <;> rfl
 |nxt x r =>simp[bc];cases Hc (HP.ov b d).get (bA e x) <;> rfl
 |bad=>rfl
def afH:∀l:List OP,cOs l = .mk (λck b e d n k=>match bc ck b l e d n with|.ok e d n=>k e d n|.no=>.no)
 |[]=>rfl
 |o::l=>by show BO.rec (motive:=λ_=>BO) (λf=>BO.rec (motive:=λ_=>BO) (λg=>.mk λck b e d n k=>f ck b e d n λe d n=>g ck b e d n k) (cOs l)) (cO1 o)=_;rw[afI,afH l];show BO.mk _=_;congr 1;funext ck b e d n k;rw[Qa];simp[D9];cases bc ck b [o] e d n <;> rfl
open Go Go.RowKit
def NoW:Q→Prop
 |.fail=>True
 |.ret _ g=>g=none
 |.rd _ f=>∀o,NoW (f o)
def NoW.run {h:Pos→EO}:∀{q:Q},NoW q→∀{out:TV} {j:Option (Pos×EO)},q.run h=some (out,j)→j=none
 |.fail,_,_,_,g=>by cases g
 |.ret _ _,l,out,j,g=>by cases g;exact l
 |.rd k f,l,out,j,g=>NoW.run (l (h k)) g
def dv (k:IntKind)(n:Int):NoW (eY k n):=by simp[eY,uj];rfl
def mU (c:CV):NoW (qn c):=rfl
def Ao (c:Bool):NoW (tS c):=rfl
def GZ (p:Option PV):NoW (Qe p none):=by unfold Qe;split <;> trivial
def eW {c:Bool}{p q:Q}(h:NoW p)(k:NoW q):NoW (cond c p q):=by cases c <;> assumption
def adG (op:BinOp)(k:IntKind)(a b:Int):NoW (IK op k a b):=by
 unfold IK;split <;> first|exact dv _ _|exact Ao _|exact eW trivial (dv _ _)|trivial
def Xt (op:BinOp)(k:IntKind)(a b:Int):NoW (shI op k a b):=by
 unfold shI;refine eW trivial ?_;split <;> first|exact dv _ _|trivial
def adF (op:BinOp)(a b:List Nat):NoW (aga op a b):=by
 unfold aga;split <;> first|exact Ao _|exact eW (mU _) trivial|trivial
def Q8 (ok:Bool)(z:PV)(r:Option PV):NoW (wD ok z r):=by unfold wD;split <;> split <;> rfl
def ade:∀(k:K),NM k=true→∀(g:List TV) (f:Pos),NoW (eI k g f):=by
 intro k j g f;cases k <;> first|(cases j;done)|skip
 all_goals simp[eI]
 case mov=>unfold VQ;split <;> trivial
 case pick=>unfold X7;split <;> first|trivial|(split <;> trivial)
 case build=>unfold Id;split <;> trivial
 case load=>
  unfold Ic;split
  ·split
   ·intro o;simp only;split
    ·exact GZ _
    ·trivial
   ·trivial
  ·trivial
 case nilchk=>unfold Bm;split <;> first|trivial|(split <;> trivial)
 case bin op=>
  unfold tc;split
  ·split
   ·split
    ·split
     ·exact Xt _ _ _ _
     ·exact Xt _ _ _ _
     ·exact eW (adG _ _ _ _) trivial
    ·exact adF _ _ _
    ·trivial
   ·trivial
  ·trivial
 case eql=>unfold aeV;split <;> first|trivial|(split <;> first|trivial|exact Ao _)
 case un=>unfold eUn;split <;> first|trivial|(split <;> first|trivial|exact Ao _|exact dv _ _)
 case cint=>unfold Sz;split <;> first|trivial|(split <;> first|trivial|exact dv _ _)
 case same=>unfold Sp;split <;> first|trivial|(split <;> trivial)
 case i2s=>unfold aeT;split <;> first|trivial|(split <;> first|trivial|exact eW (mU _) trivial)
 case subs=>
  unfold So;split
  ·unfold abt;split
   ·split
    ·split
     ·split
      ·exact eW (mU _) trivial
      ·trivial
     ·trivial
    ·trivial
   ·trivial
  ·trivial
 case fadr=>unfold Sw;split <;> first|trivial|(split <;> trivial)
 case fld=>unfold aeU;split <;> first|trivial|(split <;> first|trivial|exact eW (GZ _) trivial)
 case idxl=>unfold Lw;split <;> first|trivial|(split <;> first|trivial|exact eW (mU _) trivial)
 case idxa=>unfold Sv;split <;> first|trivial|(split <;> first|trivial|exact eW (mU _) trivial)
 case idxs=>unfold Lv;split <;> first|trivial|(split <;> first|trivial|(split <;> first|trivial|exact dv _ _))
 case idxg=>unfold Su;split <;> first|trivial|(split <;> first|trivial|exact eW (GZ _) trivial)
 case look=>
  unfold Sq;split
  ·split
   ·refine eW ?_ trivial;split
    ·exact Q8 _ _ _
    ·intro o;simp only;split
     ·split
      ·exact Q8 _ _ _
      ·trivial
     ·trivial
    ·trivial
   ·trivial
  ·trivial
 case ext=>unfold aaV;split <;> first|trivial|(split <;> first|trivial|(split <;> trivial))
 case lens=>unfold Lt;split <;> first|trivial|(split <;> first|trivial|exact dv _ _)
 case lenl=>unfold Lu;split <;> first|trivial|(split <;> first|trivial|exact dv _ _)
 case lenm=>
  unfold Sr;split
  ·split
   ·exact dv _ _
   ·intro o;simp only;split
    ·exact dv _ _
    ·trivial
   ·trivial
  ·trivial
 case lena=>unfold Ss;split <;> first|trivial|exact dv _ _
 case capl=>unfold SA;split <;> first|trivial|(split <;> first|trivial|exact dv _ _)
 case mx=>unfold eMx;split <;> first|trivial|(split <;> first|trivial|exact eW (dv _ _) trivial)
 case usd=>unfold aeP;split <;> first|trivial|(split <;> first|trivial|exact mU _|exact eW (mU _) trivial)
 case ibs=>unfold aeS;split <;> first|trivial|(split <;> first|trivial|exact eW (dv _ _) trivial)
variable{o:FO}{al:Bool}
def Cc (l:NM o.k=true){e:Env}{h:Pos→EO}{f:Pos}{out:TV}{j:Option (Pos×EO)}(g:stepF e h f o=some (out,j)):j=none:=by
 unfold stepF at g;split at g
 ·split at g
  ·exact(ade _ l _ _).run g
  ·simp at g;exact g.2.symm
 ·cases g
def xr (o:OP):DOp:=λck b l e d r n k=>match o with
 |.op o al=>match stepF e (HP.ov b (e9 al d r)).get r o with
  |some (out,wr)=>bif okW (HP.ov b (e9 al d r)).get wr then k (.op (fC wr) (trF e (HP.ov b (e9 al d r)).get r o) (pE al r wr) (qF e r o) out) (bn e o.dst out) (tJ d wr) (dc al r) n else .no
  |none=>.no
 |.call args f g=>match gd e g with
  |some true=>match cX (HP.ov b d).get (bj e args)with
   |some (t,vs)=>match ck.call (.ov b d) t vs .leaf n with
    |.ok out j p=>bif sV j l then k (.call (.ov b d) j) (bn e f out) (mX j d) r p else .no
    |.no=>.no
   |none=>.no
  |some false=>k (.op none [] true .fail .unk) (bn e f (.tup [])) d r n
  |none=>.no
 |_=>.no
def Cv {o:FO}{al:Bool}{b:HP}{e:Env}{d:DM}{r:Pos}{out:TV}{f:Option (Pos×EO)}(h:stepF e (HP.ov b (e9 al d r)).get r o=some (out,f)):ad7 o al b e d r = .op (fC f) (trF e (HP.ov b (e9 al d r)).get r o) (pE al r f) (qF e r o) out:=by unfold ad7;rw[h]
def z6 (h:KE (.op o al)=true):al=false∧NM o.k=true:=by
 cases al with
 |true=>cases h
 |false=>exact⟨rfl,h⟩
def ae7 (h:KE (.op o al)=true):ae8 o (cB o al)=xr (.op o al):=by
 obtain⟨rfl,j⟩:=z6 h;funext ck b C e d r n k;simp[ae8,cB,xr,bT,e9];have g:=@Cv o false b e d r;simp[e9]at g;cases f:stepF e (HP.ov b d).get r o with
 |none=>rfl
 |some p =>obtain⟨out,l⟩:=p;have:=Cc j f;subst this;rw[g f];rfl
def amH (b:HP)(d:DM)(f:Option (Pos×EO))(k:RX):okK b d f k=bif okW (HP.ov b d).get f then k else .no:=by
 cases f with
 |none=>rfl
 |some p =>show bC (DH (hG (.ov b d) p.1)) .no k=_;rw[DL,nM];simp only[okW];cases DH ((HP.ov b d).get p.1) <;> rfl
def anw (al:Bool)(d:DM)(r:Pos)(k:DM→RX):clK al d r k=k (e9 al d r):=by
 cases al with
 |false=>rfl
 |true=>exact pK _ _ _ _
def al1 (al:Bool)(r:Pos)(k:Pos→RX):sPi al r k=k (dc al r):=by
 cases al with
 |false=>rfl
 |true=>exact yo _ _
def akk (k:K)(args:List Src)(f:Option Pos)(al:Bool):anq ⟨k,args,f,none⟩ al (eI k) (λe=>bj e args) (λv e=>bn e f v)=xr (.op ⟨k,args,f,none⟩ al):=by
 funext ck b C e d r n K;simp[anq,xr,anw,Gq,amH,B8,al1,bv];have g:=@Cv ⟨k,args,f,none⟩ al b e d r;simp[bv]at g;cases j:(eI k (bj e args) r).run (HP.ov b (e9 al d r)).get with
 |none=>rfl
 |some p =>obtain⟨out,l⟩:=p;simp only;rw[g j]
def ae5 (o:FO)(al:Bool):ae6 o al=xr (.op o al):=by
 funext ck b j e d r n K;simp[ae6,xr];cases f:stepF e (HP.ov b (e9 al d r)).get r o with
 |none=>rfl
 |some p =>obtain⟨out,g⟩:=p;simp only;rw[Cv f]
def LG (ck:Callk)(b:HP)(j:List Pos)(t:Tgt)(g:List TV)(d:DM)(n:Pos)(k:Inf→TV→DM→Pos→RX):Oi ck b j t g d n k=match ck.call (.ov b d) t g .leaf n with
  |.ok out f l=>bif sV f j then k (.call (.ov b d) f) out (mX f d) l else .no
  |.no=>.no:=by
 unfold Oi RCx;cases ck.call (.ov b d) t g .leaf n with
 |no=>rfl
 |ok out f l=>exact nM _ _ _
def afc (args:List Src)(g:Option Pos):dC1 args g = .mk (xr (.call args g none)):=by
 unfold dC1;split
 ·rfl
 next x l=>
  rw[xy,Mn,Bq];show BD1.mk _=_;congr 1;funext ck b C e d r n K;simp[aly,xr,gd,bj];generalize bA e x=v;obtain _|p|m:=v
  ·rfl
  ·obtain c|m:=p
   ·cases c with
    |fnc f=>simp[asC,cX];exact LG _ _ _ _ _ _ _ _
    |clo q=>
     simp[asC,afb];cases cX (HP.ov b d).get (.pv (.one (.clo q))::bj e l)with
     |none=>rfl
     |some p =>obtain⟨t,j⟩:=p;exact LG _ _ _ _ _ _ _ _
    |_=>rfl
   ·rfl
  ·rfl
def anr (args:List Src)(f:Option Pos)(p:Pos)(w:Bool):dGd (λe=>PM.get .unk e p) w (λv e=>bn e f v) (xr (.call args f none))=xr (.call args f (some (p,w))):=by
 funext ck b g e d r n K;have j:xr (.call args f (some (p,w))) ck b g e d r n K=match (match e.get .unk p with
   |.pv (.one (.bl b))=>some (match w with|true=>b|false=>!b)
   |.tup _=>some false
   |_=>none)with
   |some true=>xr (.call args f none) ck b g e d r n K
   |some false=>K (.op none [] true .fail .unk) (bn e f (.tup [])) d r n
   |none=>.no:=rfl
 rw[j];simp[dGd];generalize PM.get .unk e p=v;obtain _|q|l:=v
 ·rfl
 ·obtain c|l:=q
  ·cases c with
   |bl t =>simp[nM];cases w <;> cases t <;> rfl
   |_=>rfl
  ·rfl
 ·rfl
def anp (o:OP):dO1 o = .mk (xr o):=by
 cases o with
 |op o al=>
  obtain⟨k,args,f,g⟩:=o;simp[dO1];split
  next hp=>rw[afI,Xa];show BD1.mk _=_;rw[ae7 hp]
  ·split
   ·rw[aeX,Mn,Bq];show BD1.mk _=_;rw[akk]
   ·rw[ae5]
 |call args f g=>
  simp[dO1];split
  ·exact afc args f
  next p w=>rw[afc,RV,Bq];show BD1.mk _=_;rw[anr]
 |nxt x f=>rfl
 |bad=>rfl
def Zm (ck:Callk)(b:HP)(rs:List Pos)(o:OP)(l:List OP)(e:Env)(d:DM)(r n:Pos)(k:List Inf→Env→DM→Pos→RX) :
  (match nU ck b rs (o::l) e d r n with|.ok l e d n=>k l e d n|.no=>RX.no)=xr o ck b rs e d r n λi e d r n=>match nU ck b rs l e d r n with|.ok l e d n=>k (i::l) e d n|.no=>RX.no:=by
 have hc:∀(i:Inf) (t:RT'),(match Bu i t with|.ok l e d n=>k l e d n|.no=>RX.no)=match t with|.ok l e d n=>k (i::l) e d n|.no=>RX.no:=λi t=>by cases t <;> rfl
 cases o with
 |op o al=>
  simp[nU,xr];cases stepF e (HP.ov b (e9 al d r)).get r o with
  |none=>rfl
  |some p=>
   obtain⟨out,wr⟩:=p;simp only;cases okW (HP.ov b (e9 al d r)).get wr with
   |false=>rfl
   |true=>simp;exact hc _ _
 |call args dst g=>
  simp[nU,xr];cases gd e g with
  |none=>rfl
  |some t=>
   cases t with
   |false=>exact hc _ _
   |true=>
    simp only;cases cX (HP.ov b d).get (bj e args)with
    |none=>rfl
    |some p=>
     obtain⟨t,vs⟩:=p;simp only;cases ck.call (.ov b d) t vs .leaf n with
     |no=>rfl
     |ok out d' n'=>
      simp only;cases sV d' rs with
      |false=>rfl
      |true=>simp;exact hc _ _
 |_=>rfl
def ae9:∀l:List OP,dOs l = .mk (λck b j e d r n k=>match nU ck b j l e d r n with|.ok l e d n=>k l e d n|.no=>.no)
 |[]=>rfl
 |o::l=>by show BD1.rec (motive:=λ_=>BD) (λf=>BD.rec (motive:=λ_=>BD) (λg=>.mk λck b j e d r n k=>f ck b j e d r n λi e d r n=>g ck b j e d r n λl e d n=>k (i::l) e d n) (dOs l)) (dO1 o)=_;rw[anp,ae9 l];show BD.mk _=_;congr 1;funext ck b j e d r n k;exact(Zm ck b j o l e d r n k).symm
def qp (b:HP):∀(f:List OP) (d:DM) (n:Pos) (k:List Pos→DM→Pos→RX),acV (alN f) b d n k=match sT b f d n with
  |some (l,j,g)=>k l j g
  |none=>.no
 |[],_,_,_=>rfl
 |.op o true::r,d,n,k=>by
  show frK b d n (dSK n .res d λJ=>sPK n λC=>acV (alN r) b J C λl j g=>k (n::l) j g)=_;rw[HR,pK,yo,qp b r];simp[sT,bT];cases(HP.ov b d).get n with
  |none=>
   simp;cases sT b r (gz d n .res) n.succ with
   |none=>rfl
   |some p=>rfl
  |_=>rfl
 |.op o false::r,d,n,k=>qp b r d n k
 |.call _ _ _::r,d,n,k=>qp b r d n k
 |.nxt _ _::r,d,n,k=>qp b r d n k
 |.bad::r,d,n,k=>qp b r d n k
def Xf (l:List Inf)(k:RX):∀ps:List (Nat×Nat),amf l ps k=bif d9 l ps then k else .no
 |[]=>rfl
 |p::r=>by show bC (gg l p) (amf l r k) .no=_;rw[Xf l k r,nM];simp[d9];cases gg l p <;> rfl
def Kl {ck:Callk}{b:HP}{rs:List Pos}:∀(p:List OP) {e:Env} {d:DM} {r n:Pos} {l:List Inf} {T:Env} {U:DM} {R:Pos},nU ck b rs p e d r n = .ok l T U R→∀i,Gs p i=true→∃tr fr q out,nth l i=some (.op none tr fr q out)
 |[],e,d,r,n,l,T,U,R,h,i,hi=>by cases i <;> cases hi
 |o::p,e,d,r,n,l,T,U,R,h,i,hi=>by
  have key:∃j e1 d1 r1 n1 f,l=j::f∧nU ck b rs p e1 d1 r1 n1 = .ok f T U R∧(KE o=true→∃tr fr q out,j = .op none tr fr q out):=by
   have cons:∀(j:Inf) (t:RT'),Bu j t = .ok l T U R→∃f,l=j::f∧t = .ok f T U R:=λj t ht=>by
    cases t with
    |no=>cases ht
    |ok f e1 d1 n1 =>simp only[Bu]at ht;injection ht with P C h3 h4;subst P;subst C;subst h3;subst h4;exact⟨f,rfl,rfl⟩
   cases o with
   |op o al=>
    simp[nU]at h;split at h
    ·rename_i out wr hs;rw[f?]at h;split at h
     ·obtain⟨f,P,C⟩:=cons _ _ h;refine⟨_,_,_,_,_,f,P,C,λJ=>?_⟩;obtain⟨rfl,J⟩:=z6 J;have:=Cc J hs;subst this;exact⟨_,_,_,_,rfl⟩
     ·cases h
    ·cases h
   |call args dst g=>
    simp[nU]at h;split at h
    ·split at h
     ·split at h
      ·rw[f?]at h;split at h
       ·obtain⟨f,P,C⟩:=cons _ _ h;exact⟨_,_,_,_,_,f,P,C,λJ=>by cases J⟩
       ·cases h
      ·cases h
     ·cases h
    ·obtain⟨f,P,C⟩:=cons _ _ h;exact⟨_,_,_,_,_,f,P,C,λJ=>by cases J⟩
    ·cases h
   |nxt x dst=>cases h
   |bad=>cases h
  obtain⟨j,e1,d1,r1,n1,f,rfl,C,h3⟩:=key;cases i with
  |zero =>obtain⟨tr,fr,q,out,rfl⟩:=h3 hi;exact⟨tr,fr,q,out,rfl⟩
  |succ i=>exact Kl p C i hi
def VE {f:List OP}{l:List Inf}(h:∀i,Gs f i=true→∃g j q out,nth l i=some (.op none g j q out)):∀ps:List (Nat×Nat),d9 l (VF f ps)=d9 l ps
 |[]=>rfl
 |p::r=>by
  simp[VF];split
  next h1 h2=>
   rw[VE h r];obtain⟨R,U,q1,o1,J⟩:=h _ h1;obtain⟨P,T,q2,o2,C⟩:=h _ h2;have:gg l p=true:=by
    simp only[gg,J,C,eD,CY,OE];rfl
   simp[d9,this]
  ·simp[d9,VE h r]
def Tq {ck:Callk}{b:HP}:∀(f:List OP),Wm f=true→∀(e:Env) (d:DM) (n m:Pos),(∃l j,nU ck b [] f e d n m = .ok l j d m∧bc ck b f e d n = .ok j d n∧∀i,i<f.length→∃P U q out,nth l i=some (.op none P U q out))∨(nU ck b [] f e d n m = .no∧bc ck b f e d n = .no)
 |[],_,e,d,n,m=>.inl ⟨[],e,rfl,rfl,λi r=>by cases r⟩
 |o::f,h,e,d,n,m=>by
  simp[Wm]at h;split at h
  next g=>
   cases o with
   |op o al=>
    obtain⟨rfl,g⟩:=z6 g;simp only[nU,bc,bT,ξ,e9];cases R:stepF e (HP.ov b d).get n o with
    |none=>exact .inr ⟨rfl,rfl⟩
    |some p=>
     obtain⟨out,wr⟩:=p;have:=Cc g R;subst this;simp only[okW,ξ,tJ,dc];rcases Tq f h (bn e o.dst out) d n m with⟨l,j,J,C,T⟩|⟨J,C⟩
     ·refine .inl ⟨_,j,by rw[J];rfl,C,λi r=>?_⟩;cases i with
      |zero=>exact⟨_,_,_,_,rfl⟩
      |succ i=>exact T i (by simpa using r)
     ·exact .inr ⟨by rw[J];rfl,C⟩
   |_=>cases g
  ·cases h
def L3 (b:HP):∀(f:List OP),Wm f=true→∀(d:DM) (n:Pos),sT b f d n=some ([],d,n)
 |[],_,_,_=>rfl
 |o::f,h,d,n=>by
  simp[Wm]at h;split at h
  next g=>
   cases o with
   |op o al =>obtain⟨rfl,g⟩:=z6 g;exact L3 b f h d n
   |_=>cases g
  ·cases h
def W9 (g:List OP)(f:OpC)(j:cOs g = .mk f)(l:Nat)(ck:Callk)(b:HP)(e:Env)(d:DM)(n:Pos)(k:Kx):nV f ck l b e d n k=bX (exec ck l (.region g) b e d n) k:=by rw[afH]at j;cases j;simp[nV,exec];cases bc ck b g e d n <;> rfl
def akl (f:List OP)(ps:List (Nat×Nat))(g:an3)(j:dOs f = .mk g)(r:Nat)(ck:Callk)(b:HP)(e:Env)(d:DM)(n:Pos)(k:Kx):drF (alN f) (VF f ps) g ck r b e d n k=bX (exec ck r (.drawn f ps) b e d n) k:=by
 rw[ae9]at j;cases j;simp[drF,qp,exec,Xf];cases sT b f d n with
 |none=>rfl
 |some p=>
  obtain⟨C,R,J⟩:=p;simp only;cases P:nU ck b C f e R n J with
  |no=>rfl
  |ok l U d' T =>simp only;rw[VE (Kl f P)];cases d9 l ps <;> rfl
def KI {l:List Inf}{m:Nat}(h:∀i,i<m→∃f g q out,nth l i=some (.op none f g q out)):∀ps:List (Nat×Nat),aiH m ps=true→d9 l ps=true
 |[],_=>rfl
 |p::r,hp=>by
  simp only[aiH,n?,ι]at hp;obtain⟨P,T,q1,o1,C⟩:=h _ (cD.1 hp.1.1);obtain⟨J,R,q2,o2,j⟩:=h _ (cD.1 hp.1.2);have:gg l p=true:=by simp only[gg,C,j,eD,CY,OE];rfl
  simp[d9,this];exact KI h r hp.2
def akm (g:List OP)(ps:List (Nat×Nat))(r:Wm g=true)(J:aiH g.length ps=true)(f:OpC)(P:cOs g = .mk f)(C:Nat)(ck:Callk)(b:HP)(e:Env)(d:DM)(n:Pos)(k:Kx):nV f ck C b e d n k=bX (exec ck C (.drawn g ps) b e d n) k:=by
 rw[W9 g f P];simp[exec,L3 b g r];rcases Tq (ck:=ck) (b:=b) g r e d n n with⟨l,T,p,j,R⟩|⟨p,j⟩
 ·rw[p,j];simp[KI R ps J]
 ·rw[p,j]
def an8 (x:BO):∃f,x = .mk f:=by cases x;exact⟨_,rfl⟩
def aoX (x:BD):∃f,x = .mk f:=by cases x;exact⟨_,rfl⟩
def ans (j:List OP)(ps:List (Nat×Nat)):dFc j ps = .mk (λck l b e d n k=>bX (exec ck l (.drawn j ps) b e d n) k):=by
 unfold dFc;split
 next ha=>simp at ha;obtain⟨f,r⟩:=an8 (cOs j);rw[r];show BC.mk (nV f)=_;congr 1;funext ck l b e d n k;exact akm j ps ha.1 ha.2 f r l ck b e d n k
 ·obtain⟨g,p⟩:=aoX (dOs j);rw[p];show BC.mk (drF (alN j) (VF j ps) g)=_;congr 1;funext ck l b e d n k;exact akl j ps g p l ck b e d n k
def Rn (f:Clo)(ck:Callk)(g:Nat)(b:HP)(r:Env→DM→Pos→RX)(j:∀e d n k,f ck g b e d n k=bX (r e d n) k)(k:Kx):∀(m:Nat) (e:Env) (d:DM) (n:Pos),
  (Nat.rec (motive:=λ_=>Env→DM→Pos→RX) (λ_ _ _=>.no) (λ_ p e d n=>f ck g b e d n λx e d n=>Ex.rec (motive:=λ_=>RX) (p e d n) (λid=>k (.exit id) e d n) (k .ret e d n) x) m:Env→DM→Pos→RX) e d n=bX (qH r m e d n) k
 |0,_,_,_=>rfl
 |m+1,e,d,n=>by
  show f ck g b e d n _=_;rw[j];simp[qH];cases r e d n with
  |no=>rfl
  |ok x C J l=>
   cases x with
   |normal=>exact Rn f ck g b r j k m C J l
   |exit id=>rfl
   |ret=>rfl
def H8:∀c:FC,fc c = .mk (λck g b e d n k=>bX (exec ck g c b e d n) k)
 |.skip=>rfl
 |.region j=>by obtain⟨f,C⟩:=an8 (cOs j);show BO.rec (motive:=λ_=>BC) (λf=>.mk (nV f)) (cOs j)=_;rw[C];show BC.mk (nV f)=_;congr 1;funext ck g b e d n k;exact W9 j f C g ck b e d n k
 |.drawn j ps=>ans j ps
 |.seq x y=>by
  show c2 al0 (fc x) (fc y)=_;rw[H8 x,H8 y];show BC.mk _=_;congr 1;funext ck g b e d n k;simp[al0,exec];cases exec ck g x b e d n with
  |no=>rfl
  |ok r P R J=>cases r <;> rfl
 |.cond c x y=>by
  show BG.rec (motive:=λ_=>BC) (λc=>c2 (afg c) (fc x) (fc y)) (vB c)=_;rw[H8 x,H8 y,xy];show BC.mk _=_;congr 1;funext ck g b e d n k;simp[afg,exec,nM];generalize bA e c=v;obtain _|p|l:=v
  ·rfl
  ·obtain c|l:=p
   ·cases c with
    |bl t=>cases t <;> rfl
    |_=>rfl
   ·rfl
  ·rfl
 |.block id x=>by
  show c1 (Wd id) (fc x)=_;rw[H8 x];show BC.mk _=_;congr 1;funext ck g b e d n k;simp[Wd,exec];cases exec ck g x b e d n with
  |no=>rfl
  |ok r P R J=>
   cases r with
   |normal=>rfl
   |ret=>rfl
   |exit i =>show bC (Nat.beq i id) _ _=_;rw[nM];simp only;cases Nat.beq i id <;> rfl
 |.loop x=>by show c1 als (fc x)=_;rw[H8 x];show BC.mk _=_;congr 1;funext ck g b e d n k;exact Rn (λck g b e d n k=>bX (exec ck g x b e d n) k) ck g b (exec ck g x b) (λ_ _ _ _=>rfl) k g e d n
 |.rloop _ _ _ _ _=>rfl
 |.rng _ _ _ _=>rfl
 |.exit _=>rfl
 |.ret=>rfl
 |.bad=>rfl
def adC:∀(l:List TV) (e:Env) (p:Pos),ofA l e p=pz l p e
 |[],_,_=>rfl
 |a::l,e,p=>by show ofA l (BS.rec (motive:=λ_=>Env) (λs=>s a e) (sB p)) (sP p)=_;rw[adC l,WV,alh];rfl
def aoM (r:RX):bX r (λx e d n=>.ok x e d n)=r:=by cases r <;> rfl
def NH (l:Tb)(p:FuncId→Option Fi)(g:Nat):∀r:Nat,mkR l p g r=mkT l p g r
 |0=>by funext C b t args d n;cases t <;> rfl
 |r+1=>by
  funext C b t args d n;cases t with
  |yld j=>rfl
  |fn f=>
   show RC.rec (motive:=λ_=>RC) (FJ.rec (motive:=λ_=>RC) .no (λc res J=>Bool.rec (motive:=λ_=>RC) .no (Zr b res (c (Ec (mkR l p g r) C) g b (ofA args .leaf .e) d n λx e d n=>.ok x e d n)) (Nat.ble (lnT args) J)) (fj p f)) (λv d n=>.ok v d n) (l f b args d n)=_;rw[NH l p g r];simp[mkT,adO,adC];cases l f b args d n with
   |ok v d n=>rfl
   |no=>
    simp[UK,fj];cases p f with
    |none=>rfl
    |some x =>simp only;rw[H8];simp[aoM];cases Nat.ble args.length x.nt <;> rfl
