/- Closed runs. -/
import Derived.Test.YtfgpipfjalmooaaGreatCloI
open Option renaming some→ä,none→ö
open Bool renaming true→ü,false→ß
open Go renaming TypeId→æ,FuncId→ø
set_option linter.all false
noncomputable section
namespace Go.Proofs.YtfgpipfjalmooaaGreat
namespace Clo
open Go Go.RowKit
abbrev Kx:=Ex→Env→DM→Pos→RX
abbrev Ko:=Env→DM→Pos→RX
abbrev Clo:=Callk→Nat→HP→Env→DM→Pos→Kx→RX
abbrev OpC:=Callk→HP→Env→DM→Pos→Ko→RX
abbrev Gt:=Env→TV
abbrev St':=TV→Env→Env
inductive BG|mk (g:Gt)
inductive BS|mk (s:St')
inductive BL|mk (g:Env→List TV)
inductive BE|mk (f:List TV→Pos→Q)
inductive BO|mk (f:OpC)
inductive BC|mk (f:Clo)
abbrev aiN:=Callk→HP→List Pos→Env→DM→Pos→Pos→(List Inf→Env→DM→Pos→RX)→RX
abbrev DOp:=Callk→HP→List Pos→Env→DM→Pos→Pos→(Inf→Env→DM→Pos→Pos→RX)→RX
inductive BD|mk (f:aiN)
inductive BD1|mk (f:DOp)
def lf (t:Env):Env:=PM.rec (motive:=λ_=>Env) .leaf (λl _ _ _ _=>l) t
def rt (t:Env):Env:=PM.rec (motive:=λ_=>Env) .leaf (λ_ _ r _ _=>r) t
def vl (t:Env):TV:=PM.rec (motive:=λ_=>TV) .unk (λ_ a _ _ _=>a) t
def gB (p:Pos):BG:=Pos.rec (motive:=λ_=>BG) (.mk vl) (λ_ f=>BG.rec (motive:=λ_=>BG) (λg=>.mk λt=>g (lf t)) f) (λ_ f=>BG.rec (motive:=λ_=>BG) (λg=>.mk λt=>g (rt t)) f) p
def sB (p:Pos):BS:=Pos.rec (motive:=λ_=>BS) (.mk λx t=>PM.rec (motive:=λ_=>Env) (.node .leaf x .leaf) (λl _ r _ _=>.node l x r) t)
 (λ_ f=>BS.rec (motive:=λ_=>BS) (λs=>.mk λx t=>PM.rec (motive:=λ_=>Env) (.node (s x .leaf) .unk .leaf) (λl a r _ _=>.node (s x l) a r) t) f)
 (λ_ f=>BS.rec (motive:=λ_=>BS) (λs=>.mk λx t=>PM.rec (motive:=λ_=>Env) (.node .leaf .unk (s x .leaf)) (λl a r _ _=>.node l a (s x r)) t) f) p
def vB (s:Src):BG:=Src.rec (motive:=λ_=>BG) (λp=>gB p) (λv=>.mk λ_=>v) s
def dB (d:Option Pos):BS:=Option.rec (motive:=λ_=>BS) (.mk (λ_ e=>e)) (λp=>sB p) d
def vsB (l:List Src):BL:=List.rec (motive:=λ_=>BL) (.mk (λ_=>[])) (λs _ f=>BG.rec (motive:=λ_=>BL) (λg=>BL.rec (motive:=λ_=>BL) (λh=>.mk λe=>g e::h e) f) (vB s)) l
def dlf (t:DM):DM:=PM.rec (motive:=λ_=>DM) .leaf (λl _ _ _ _=>l) t
def drt (t:DM):DM:=PM.rec (motive:=λ_=>DM) .leaf (λ_ _ r _ _=>r) t
def dvl (t:DM):Option EO:=PM.rec (motive:=λ_=>Option EO) ö (λ_ a _ _ _=>a) t
def dG (k:Pos):DM→Option EO:=Pos.rec (motive:=λ_=>DM→Option EO) dvl (λ_ f t=>f (dlf t)) (λ_ f t=>f (drt t)) k
def dSK (k:Pos)(o:EO):DM→(DM→RX)→RX:=Pos.rec (motive:=λ_=>DM→(DM→RX)→RX) (λt K=>PM.rec (motive:=λ_=>RX) (K (.node .leaf (ä o) .leaf)) (λl _ r _ _=>K (.node l (ä o) r)) t)
 (λ_ f t K=>PM.rec (motive:=λ_=>RX) (f .leaf λl=>K (.node l ö .leaf)) (λl a r _ _=>f l λl=>K (.node l a r)) t)
 (λ_ f t K=>PM.rec (motive:=λ_=>RX) (f .leaf λr=>K (.node .leaf ö r)) (λl a r _ _=>f r λr=>K (.node l a r)) t) k
def sPK (p:Pos):(Pos→RX)→RX:=Pos.rec (motive:=λ_=>(Pos→RX)→RX) (λK=>K (.o .e)) (λp _ K=>K (.i p)) (λ_ f K=>f λq=>K (.o q)) p
def pN (p:Pos):Nat:=Pos.rec (motive:=λ_=>Nat) 0 (λ_ f=>Nat.add (Nat.mul 2 f) 1) (λ_ f=>Nat.add (Nat.mul 2 f) 2) p
def sP (p:Pos):Pos:=Pos.rec (motive:=λ_=>Pos) (.o .e) (λp _=>.i p) (λ_ f=>.o f) p
def hG (b:HP):Pos→EO:=HP.rec (motive:=λ_=>Pos→EO) (λ_=>.none) (λ_ d f k=>Option.rec (motive:=λ_=>EO) (f k) (λo=>o) (dG k d)) (λ_ n f k=>Bool.rec (motive:=λ_=>EO) .none (f k) (Nat.blt (pN k) (pN n))) b
def bX (r:RX)(k:Kx):RX:=RX.rec (motive:=λ_=>RX) .no k r
def bC (t:Bool)(a b:RX):RX:=Bool.rec (motive:=λ_=>RX) b a t
def frK (b:HP)(d:DM)(n:Pos)(k:RX):RX:=EO.rec (motive:=λ_=>RX) k (λ_ _ _ _ _ _=>.no) (λ_ _=>.no) (λ_ _ _ _=>.no) (λ_ _ _ _=>.no) (λ_ _=>.no) (λ_ _ _=>.no) (λ_ _=>.no) .no .no .no .no (hG (.ov b d) n)
def roK (o:EO)(k:Nat→PT Ch→Nat→Nat→RX):RX:=EO.rec (motive:=λ_=>RX) .no (λ_ s g len f _=>k s g len f) (λ_ _=>.no) (λ_ _ _ _=>.no) (λ_ _ _ _=>.no) (λ_ _=>.no) (λ_ _ _=>.no) (λ_ _=>.no) .no .no .no .no o
def asP (v:TV)(k:PV→RX):RX:=TV.rec (motive:=λ_=>RX) .no k (λ_=>.no) v
def asC (v:TV)(k:CV→RX):RX:=TV.rec (motive:=λ_=>RX) .no (λp=>PV.rec (motive:=λ_=>RX) k (λ_=>.no) p) (λ_=>.no) v
def asB (v:TV)(k:Bool→RX):RX:=asC v λc=>CV.rec (motive:=λ_=>RX) k (λ_ _=>.no) (λ_=>.no) .no (λ_ _ _=>.no) (λ_=>.no) .no (λ_ _ _ _ _=>.no) (λ_=>.no) .no (λ_=>.no) .no (λ_=>.no) (λ_=>.no) .no (λ_=>.no) (λ_=>.no) c
def asI (v:TV)(k:IntKind→Int→RX)(z:RX):RX:=asC v λc=>CV.rec (motive:=λ_=>RX) (λ_=>z) k (λ_=>z) z (λ_ _ _=>z) (λ_=>z) z (λ_ _ _ _ _=>z) (λ_=>z) z (λ_=>z) z (λ_=>z) (λ_=>z) z (λ_=>z) (λ_=>z) c
def asS (v:TV)(k:List Nat→RX):RX:=asC v λc=>CV.rec (motive:=λ_=>RX) (λ_=>.no) (λ_ _=>.no) k .no (λ_ _ _=>.no) (λ_=>.no) .no (λ_ _ _ _ _=>.no) (λ_=>.no) .no (λ_=>.no) .no (λ_=>.no) (λ_=>.no) .no (λ_=>.no) (λ_=>.no) c
def asR (v:TV)(k:Pos→Nat→Nat→RX):RX:=asC v λc=>CV.rec (motive:=λ_=>RX) (λ_=>.no) (λ_ _=>.no) (λ_=>.no) .no k (λ_=>.no) .no (λ_ _ _ _ _=>.no) (λ_=>.no) .no (λ_=>.no) .no (λ_=>.no) (λ_=>.no) .no (λ_=>.no) (λ_=>.no) c
def asL (v:TV)(k:Pos→Nat→Nat→Nat→RX):RX:=asC v λc=>CV.rec (motive:=λ_=>RX) (λ_=>.no) (λ_ _=>.no) (λ_=>.no) .no (λ_ _ _=>.no) (λ_=>.no) .no (λp g o n _=>k p g o n) (λ_=>.no) .no (λ_=>.no) .no (λ_=>.no) (λ_=>.no) .no (λ_=>.no) (λ_=>.no) c
def nI (n:Int)(k:Int→RX):RX:=Int.rec (motive:=λ_=>RX) (λm=>Nat.rec (motive:=λ_=>RX) (k (.ofNat 0)) (λm _=>k (.ofNat (Nat.succ m))) m) (λm=>Nat.rec (motive:=λ_=>RX) (k (.negSucc 0)) (λm _=>k (.negSucc (Nat.succ m))) m) n
def nN (n:Nat)(k:Nat→RX):RX:=Nat.rec (motive:=λ_=>RX) (k 0) (λm _=>k (Nat.succ m)) n
def i2 (a b:Int)(f:Nat→Nat→RX)(z:RX):RX:=Int.rec (motive:=λ_=>RX) (λa=>Int.rec (motive:=λ_=>RX) (λb=>f a b) (λ_=>z) b) (λ_=>z) a
def oI (k:IntKind)(n:Int):TV :=.pv (.one (.int k n))
def oB (b:Bool):TV :=.pv (.one (.bl b))
def sWK (wr:Option (Pos×EO))(d:DM)(k:DM→RX):RX:=Option.rec (motive:=λ_=>RX) (k d) (λp=>dSK p.1 p.2 d k) wr
def qK (b:HP)(d:DM)(q:Q)(k:TV→Option (Pos×EO)→RX):RX:=Q.rec (motive:=λ_=>RX) .no k (λp _ f=>f (hG (.ov b d) p)) q
def bZ (o:FO)(f:Bool):OpC:=λ_ b e d n k=>bif bz f (HP.ov b d).get n then(match j7 e (HP.ov b d).get n o with
 |some (out,wr)=>k (aV e o.dst out) (sX d wr) (cN f n)
 |none=>.no)else .no
def Vw (f:List TV→Pos→Q)(j:Env→List TV)(g:St'):OpC:=λ_ b e d n k=>qK b d (f (j e) n) λout wr=>sWK wr d λd=>k (g out e) d n
def Vv (f:List TV→Pos→Q)(j:Env→List TV)(g:St'):OpC:=λ_ b e d n k=>frK b d n (qK b d (f (j e) n) (λout wr=>sWK wr d λd=>sPK n λn=>k (g out e) d n))
def ajh (x:Gt)(f:St'):OpC:=λ_ _ e d n k=>k (f (x e) e) d n
def acJ (c x y:Gt)(f:St'):OpC:=λ_ _ e d n k=>asB (c e) λt=>bC t (k (f (x e) e) d n) (k (f (y e) e) d n)
def aiw (x:Gt)(f:St'):OpC:=λ_ _ e d n k=>asB (x e) λt=>bC t (k (f (oB ß) e) d n) (k (f (oB ü) e) d n)
def Qv (f:Int→Int→Bool)(fn:Nat→Nat→Bool)(op:BinOp)(x y:Gt)(g:St'):OpC:=λ_ b e d n k=>
 asI (x e) (λp a=>asI (y e) (λl j=>bC (kq p l) (i2 a j (λa j=>bC (fn a j) (k (g (oB ü) e) d n) (k (g (oB ß) e) d n)) (bC (f a j) (k (g (oB ü) e) d n) (k (g (oB ß) e) d n))) .no) .no)
  (qK b d (sC op [x e,y e] n) λout wr=>sWK wr d λd=>k (g out e) d n)
def SS (k:IntKind):Bool:=IntKind.rec (motive:=λ_=>Bool) ß ß ß ü ß ß ß ß k
def aiF (x y:Gt)(f:St'):OpC:=λ_ b e d n k=>
 asI (x e) (λg a=>asI (y e) (λp j=>bC (kq g p) (i2 a j (λC l=>bC (SS g) (nN (Nat.add C l) λs=>bC (Nat.blt s 9223372036854775808) (k (f (oI g (.ofNat s)) e) d n) (nI (g.wrap (a+j)) λr=>k (f (oI g r) e) d n)) (nI (g.wrap (a+j)) λr=>k (f (oI g r) e) d n)) (nI (g.wrap (a+j)) λr=>k (f (oI g r) e) d n)) .no) .no)
  (qK b d (sC .add [x e,y e] n) λout wr=>sWK wr d λd=>k (f out e) d n)
def aiv (x y:Gt)(f:St'):OpC:=λ_ b e d n k=>
 asI (x e) (λg a=>asI (y e) (λC l=>bC (kq g C) (i2 a l (λp j=>bC (Nat.ble j p) (bC (SS g) (bC (Nat.blt p 9223372036854775808) (nN (Nat.sub p j) λs=>k (f (oI g (.ofNat s)) e) d n) (nI (g.wrap (a-l)) λr=>k (f (oI g r) e) d n)) (nI (g.wrap (a-l)) λr=>k (f (oI g r) e) d n)) (nI (g.wrap (a-l)) λr=>k (f (oI g r) e) d n)) (nI (g.wrap (a-l)) λr=>k (f (oI g r) e) d n)) .no) .no)
  (qK b d (sC .sub [x e,y e] n) λout wr=>sWK wr d λd=>k (f out e) d n)
def aeJ (l:List Nat):Nat→(Nat→RX)→RX:=List.rec (motive:=λ_=>Nat→(Nat→RX)→RX) (λ_ _=>.no) (λa _ f i k=>Nat.rec (motive:=λ_=>RX) (k a) (λi _=>f i k) i) l
def acT (x y:Gt)(f:St'):OpC:=λ_ _ e d n k=>asS (x e) λs=>asI (y e) (λ_ i=>Int.rec (motive:=λ_=>RX) (λi=>aeJ s i λc=>nN c λc=>k (f (oI .u8 (.ofNat c)) e) d n) (λ_=>.no) i) .no
def lnN (l:List Nat):Nat:=List.rec (motive:=λ_=>Nat) 0 (λ_ _ f=>Nat.add f 1) l
def lnC (l:List CV):Nat:=List.rec (motive:=λ_=>Nat) 0 (λ_ _ f=>Nat.add f 1) l
def acN (x:Gt)(f:St'):OpC:=λ_ _ e d n k=>asS (x e) λs=>nN (lnN s) λr=>k (f (oI .i64 (.ofNat r)) e) d n
def acZ (c:Nat)(x:Gt)(f:St'):OpC:=λ_ _ e d n k=>asR (x e) λp g o=>nN (Nat.add o c) λo=>k (f (.pv (.one (.ptr p g o))) e) d n
def acV (s:Nat)(x y:Gt)(f:St'):OpC:=λ_ _ e d n k=>asL (x e) λp g o len=>asI (y e) (λ_ i=>Int.rec (motive:=λ_=>RX) (λi=>bC (Nat.blt i len) (nN (Nat.add o (Nat.mul i s)) (λo=>k (f (.pv (.one (.ptr p g o))) e) d n)) .no) (λ_=>.no) i) .no
def ptG (t:PT Ch):Nat→Ch:=PT.rec (motive:=λ_=>Nat→Ch) (λ_=>dch) (λ_ a _ g f i=>Nat.rec (motive:=λ_=>Ch) a (λi _=>Bool.rec (motive:=λ_=>Ch) (f (Nat.div i 2)) (g (Nat.div i 2)) (Nat.beq (Nat.mod i 2) 0)) i) t
def drC (l:List CV):Nat→List CV:=List.rec (motive:=λ_=>Nat→List CV) (λ_=>[]) (λa l f n=>Nat.rec (motive:=λ_=>List CV) (a::l) (λn _=>f n) n) l
def tkC (l:List CV):Nat→List CV:=List.rec (motive:=λ_=>Nat→List CV) (λ_=>[]) (λa _ f n=>Nat.rec (motive:=λ_=>List CV) [] (λn _=>a::f n) n) l
def hdC (l:List CV)(k:CV→RX):RX:=List.rec (motive:=λ_=>RX) .no (λc _ _=>k c) l
def chK (c:Ch)(k:List CV→Nat→RX):RX:=Ch.rec (motive:=λ_=>RX) k c
def rdK (b:HP)(d:DM)(p:Pos)(g f m:Nat)(k:List CV→RX):RX:=roK (hG (.ov b d) p) λs r len j=>
 bC (Nat.ble g j) (bC (Nat.blt (Nat.div f s) len) (chK (ptG r (Nat.div f s)) λC l=>bC (Nat.ble l g) (bC (Nat.ble (Nat.add (Nat.mod f s) m) s) (k (drC C (Nat.mod f s))) .no) .no) .no) .no
def aiz (x:Gt)(f:St'):OpC:=λ_ b e d n k=>asR (x e) λp g o=>rdK b d p g o 1 λl=>hdC l λc=>k (f (.pv (.one c)) e) d n
def aiy (s:Nat)(x:Gt)(f:St'):OpC:=λ_ b e d n k=>asR (x e) λp g o=>rdK b d p g o s λl=>k (f (.pv (.agg (tkC l s))) e) d n
def clP (p:PV):List CV:=PV.rec (motive:=λ_=>List CV) (λc=>[c]) (λl=>l) p
def apC (l m:List CV):List CV:=List.rec (motive:=λ_=>List CV) m (λa _ f=>a::f) l
def spC (g:List CV)(f:Nat)(new:List CV):List CV:=apC (tkC g f) (apC new (drC g (Nat.add f (lnC new))))
def pgL (t:PT Ch):PT Ch:=PT.rec (motive:=λ_=>PT Ch) .leaf (λl _ _ _ _=>l) t
def pgR (t:PT Ch):PT Ch:=PT.rec (motive:=λ_=>PT Ch) .leaf (λ_ _ r _ _=>r) t
def pgV (t:PT Ch):Ch:=PT.rec (motive:=λ_=>Ch) dch (λ_ a _ _ _=>a) t
def ptS (f:Nat):PT Ch→Nat→Ch→PT Ch:=Nat.rec (motive:=λ_=>PT Ch→Nat→Ch→PT Ch) (λt _ _=>t) (λ_ g t i x=>Nat.rec (motive:=λ_=>PT Ch) (.node (pgL t) x (pgR t)) (λi _=>Bool.rec (motive:=λ_=>PT Ch) (.node (pgL t) (pgV t) (g (pgR t) (Nat.div i 2) x)) (.node (g (pgL t) (Nat.div i 2) x) (pgV t) (pgR t)) (Nat.beq (Nat.mod i 2) 0)) i) f
def fzK (fz:Fz)(k:RX):RX:=Fz.rec (motive:=λ_=>RX) k .no .no fz
def roW (o:EO)(k:æ→Nat→PT Ch→Nat→Nat→Fz→RX):RX:=EO.rec (motive:=λ_=>RX) .no k (λ_ _=>.no) (λ_ _ _ _=>.no) (λ_ _ _ _=>.no) (λ_ _=>.no) (λ_ _ _=>.no) (λ_ _=>.no) .no .no .no .no o
def TB (m:Nat)(x y:Gt)(l:St'):OpC:=λ_ b e d n k=>asR (x e) λp g f=>asP (y e) λv=>bC (Nat.beq (lnC (clP v)) m) (roW (hG (.ov b d) p) λt s r len j fz=>
 bC (Nat.beq g j) (bC (Nat.blt (Nat.div f s) len) (bC (Nat.ble (Nat.add (Nat.mod f s) m) s) (fzK fz (chK (ptG r (Nat.div f s)) λC _=>dSK p (.row t s (ptS 32 r (Nat.div f s) ⟨spC C (Nat.mod f s) (clP v),j⟩) len j fz) d λd=>k (l .unk e) d n)) .no) .no) .no) .no
def TE (t:æ)(g:List CV)(f:St'):OpC:=λ_ b e d n k=>frK b d n (dSK n (.row t g.length (.node .leaf ⟨g,0⟩ .leaf) 1 0 .no) d (λd=>sPK n λj=>k (f (.pv (.one (.ptr n 0 0))) e) d j))
def aiE (t:æ)(s:Nat)(x:Gt)(f:St'):OpC:=λ_ b e d n k=>frK b d n (asP (x e) (λp=>bC (Nat.beq (lnC (clP p)) s) (dSK n (.row t s (.node .leaf ⟨clP p,0⟩ .leaf) 1 0 .no) d (λd=>sPK n λg=>k (f (.pv (.one (.ptr n 0 0))) e) d g)) .no))
def acP (x:Gt)(f:St'):OpC:=λ_ _ e d n k=>asC (x e) λc=>CV.rec (motive:=λ_=>RX) (λ_=>.no) (λ_ _=>.no) (λ_=>.no) .no (λ_ _ _=>.no) (λ_=>.no) (k (f (oI .i64 (.ofNat 0)) e) d n) (λ_ _ _ m _=>nN m λm=>k (f (oI .i64 (.ofNat m)) e) d n) (λ_=>k (f (oI .i64 (.ofNat 0)) e) d n) .no (λ_=>.no) .no (λ_=>.no) (λ_=>.no) .no (λ_=>.no) (λ_=>.no) c
def aix (x:Gt)(j:St'):OpC:=λ_ _ e d n k=>asC (x e) λc=>CV.rec (motive:=λ_=>RX) (λ_=>.no) (λ_ _=>.no) (λ_=>.no) .no (λp g o=>k (j (.pv (.one (.ptr p g o))) e) d n) (λg=>k (j (.pv (.one (.glob g))) e) d n) .no (λ_ _ _ _ _=>.no) (λ_=>.no) .no (λ_=>.no) .no (λf=>k (j (.pv (.one (.fnc f))) e) d n) (λ_=>.no) .no (λi=>k (j (.pv (.one (.ifc i))) e) d n) (λ_=>.no) c
def tuK (v:TV)(k:List PV→RX):RX:=TV.rec (motive:=λ_=>RX) .no (λ_=>.no) k v
def aeI (l:List PV):Nat→(PV→RX)→RX:=List.rec (motive:=λ_=>Nat→(PV→RX)→RX) (λ_ _=>.no) (λa _ f i k=>Nat.rec (motive:=λ_=>RX) (k a) (λi _=>f i k) i) l
def ac1 (i:Nat)(x:Gt)(f:St'):OpC:=λ_ _ e d n k=>tuK (x e) λl=>aeI l i λp=>k (f (.pv p) e) d n
def RCx (r:RC)(k:TV→DM→Pos→RX):RX:=RC.rec (motive:=λ_=>RX) .no k r
def ac3 (ck:Callk)(b:HP)(f:List TV)(d:DM)(n:Pos)(k:TV→DM→Pos→RX):RX:=match cI (HP.ov b d).get f with
 |some (t,f)=>RCx (ck.call b t f d n) k
 |none=>.no
def ac4 (x:Gt)(r:Env→List TV)(g:St'):OpC:=λck b e d n k=>asC (x e) λc=>CV.rec (motive:=λ_=>RX) (λ_=>.no) (λ_ _=>.no) (λ_=>.no) .no (λ_ _ _=>.no) (λ_=>.no) .no (λ_ _ _ _ _=>.no) (λ_=>.no) .no (λ_=>.no) .no (λf=>RCx (ck.call b (.fn f) (r e) d n) λv d n=>k (g v e) d n) (λp=>ac3 ck b (.pv (.one (.clo p))::r e) d n λv d n=>k (g v e) d n) .no (λ_=>.no) (λ_=>.no) c
def cGd (g:Gt)(w:Bool)(l:Bool)(j:St')(f:OpC):OpC:=λck b e d n k=>TV.rec (motive:=λ_=>RX) .no (λq=>PV.rec (motive:=λ_=>RX) (λc=>CV.rec (motive:=λ_=>RX) (λt=>bC (Bool.rec (motive:=λ_=>Bool) (Bool.rec (motive:=λ_=>Bool) ü ß t) t w) (f ck b e d n k) (Bool.rec (motive:=λ_=>RX) (k (j (.tup []) e) d n) (frK b d n (sPK n (λn=>k (j (.tup []) e) d n))) l)) (λ_ _=>.no) (λ_=>.no) .no (λ_ _ _=>.no) (λ_=>.no) .no (λ_ _ _ _ _=>.no) (λ_=>.no) .no (λ_=>.no) .no (λ_=>.no) (λ_=>.no) .no (λ_=>.no) (λ_=>.no) c) (λ_=>.no) q) (λ_=>Bool.rec (motive:=λ_=>RX) (k (j (.tup []) e) d n) (frK b d n (sPK n (λn=>k (j (.tup []) e) d n))) l) (g e)
def m1 (f:Gt→St'→OpC)(x:Src)(g:Option Pos):BO:=BG.rec (motive:=λ_=>BO) (λx=>BS.rec (motive:=λ_=>BO) (λd=>.mk (f x d)) (dB g)) (vB x)
def m2 (f:Gt→Gt→St'→OpC)(x y:Src)(g:Option Pos):BO:=BG.rec (motive:=λ_=>BO) (λx=>BG.rec (motive:=λ_=>BO) (λy=>BS.rec (motive:=λ_=>BO) (λd=>.mk (f x y d)) (dB g)) (vB y)) (vB x)
def m3 (f:Gt→Gt→Gt→St'→OpC)(x y z:Src)(g:Option Pos):BO:=BG.rec (motive:=λ_=>BO) (λx=>BG.rec (motive:=λ_=>BO) (λy=>BG.rec (motive:=λ_=>BO) (λz=>BS.rec (motive:=λ_=>BO) (λd=>.mk (f x y z d)) (dB g)) (vB z)) (vB y)) (vB x)
def mL (f:(Env→List TV)→St'→OpC)(l:List Src)(g:Option Pos):BO:=BL.rec (motive:=λ_=>BO) (λx=>BS.rec (motive:=λ_=>BO) (λd=>.mk (f x d)) (dB g)) (vsB l)
def eB:K→BE
 |.mov=>.mk (Tq)
 |.pick=>.mk (Vg)
 |.alloc e f=>.mk (L3 e f)
 |.box e s=>.mk (ab7 e s)
 |.build f ps=>.mk (GM f ps)
 |.lit e s len f l=>.mk (afx e s len f l)
 |.load s agg=>.mk (GL s agg)
 |.store s=>.mk (Bq s)
 |.nilchk=>.mk (Aa)
 |.bin op=>.mk (sC op)
 |.eql neg q=>.mk (ab6 neg q)
 |.un op=>.mk (eUn op)
 |.cint k=>.mk (P9 k)
 |.b2s=>.mk (afz)
 |.mkf fn nf=>.mk (afw fn nf)
 |.mkm=>.mk (afv)
 |.mks e s bytes f=>.mk (afu e s bytes f)
 |.subs j p=>.mk (P4 j p)
 |.subl s j p mx=>.mk (Vd s j p mx)
 |.fadr d=>.mk (P8 d)
 |.fld g s agg=>.mk (ab5 g s agg)
 |.idxl s=>.mk (JB s)
 |.idxa n s=>.mk (P7 n s)
 |.idxs=>.mk (JA)
 |.look q z ok=>.mk (P5 q z ok)
 |.put q=>.mk (afs q)
 |.ment q z=>.mk (Vi q z)
 |.mest=>.mk (Vh)
 |.rngm=>.mk (Ve)
 |.ext i=>.mk (Yg i)
 |.lens=>.mk (Jy)
 |.lenl=>.mk (Jz)
 |.lenm=>.mk (P6)
 |.ke e s bytes str=>.mk (afA e s bytes str)
 |.mx r=>.mk (eMx r)
 |.ent=>.mk (afy)
 |.p2u=>.mk (aft)
 |.u2p ok=>.mk (afr ok)
 |.usd=>.mk (ab3)
 |.ust e ok=>.mk (afq e ok)
 |.ibs=>.mk (ab4)
 |_=>.mk (λ_ _=>.fail)
def afg (k:K)(args:List Src)(g:Option Pos):BO:=BE.rec (motive:=λ_=>BO) (λf=>mL (Vw f) args g) (eB k)
def ah6 (k:K)(args:List Src)(g:Option Pos):BO:=BE.rec (motive:=λ_=>BO) (λf=>mL (Vv f) args g) (eB k)
def cK0 (k:K)(args:List Src)(f:Option Pos):BO:=match k,args with
 |.mov,[x]=>m1 ajh x f
 |.pick,[c,x,y]=>m3 acJ c x y f
 |.idxs,[x,y]=>m2 acT x y f
 |.lens,[x]=>m1 acN x f
 |.lenl,[x]=>m1 acP x f
 |.fadr c,[x]=>m1 (acZ c) x f
 |.store s,[x,y]=>m2 (TB s) x y f
 |.idxl s,[x,y]=>m2 (acV s) x y f
 |.load 1 ß,[x]=>m1 aiz x f
 |.load s ü,[x]=>m1 (aiy s) x f
 |.nilchk,[x]=>m1 aix x f
 |.ext i,[x]=>m1 (ac1 i) x f
 |.un .not,[x]=>m1 aiw x f
 |.bin .eql,[x,y]=>m2 (Qv (λa b=>decide (a=b)) Nat.beq .eql) x y f
 |.bin .neq,[x,y]=>m2 (Qv (λa b=>!decide (a=b)) (λa b=>Bool.rec (motive:=λ_=>Bool) ü ß (Nat.beq a b)) .neq) x y f
 |.bin .lss,[x,y]=>m2 (Qv (λa b=>decide (a<b)) Nat.blt .lss) x y f
 |.bin .leq,[x,y]=>m2 (Qv (λa b=>decide (a≤b)) Nat.ble .leq) x y f
 |.bin .gtr,[x,y]=>m2 (Qv (λa b=>decide (a>b)) (λa b=>Nat.blt b a) .gtr) x y f
 |.bin .geq,[x,y]=>m2 (Qv (λa b=>decide (a≥b)) (λa b=>Nat.ble b a) .geq) x y f
 |.bin .add,[x,y]=>m2 aiF x y f
 |.bin .sub,[x,y]=>m2 aiv x y f
 |k,args=>afg k args f
def cK1 (k:K)(args:List Src)(f:Option Pos):BO:=match k,args with
 |.alloc t zs,[]=>BS.rec (motive:=λ_=>BO) (λd=>.mk (TE t zs d)) (dB f)
 |.box t s,[x]=>m1 (aiE t s) x f
 |k,args=>ah6 k args f
def cKa (k:K)(args:List Src)(f:Option Pos)(g:Bool):BO:=Bool.rec (motive:=λ_=>BO) (cK0 k args f) (cK1 k args f) g
def gdB (p:Pos)(w l:Bool)(j:Option Pos)(f:BO):BO:=BO.rec (motive:=λ_=>BO) (λf=>BG.rec (motive:=λ_=>BO) (λg=>BS.rec (motive:=λ_=>BO) (λd=>.mk (cGd g w l d f)) (dB j)) (gB p)) f
def cC1 (args:List Src)(f:Option Pos):BO:=match args with
 |[]=>.mk λ_ _ _ _ _ _=>.no
 |x::r=>BG.rec (motive:=λ_=>BO) (λx=>mL (ac4 x) r f) (vB x)
def aiW (o:OP):BO :=.mk λck b e d n k=>match aQ ck b [o] e d n with
 |.ok e d n=>k e d n
 |.no=>.no
def cO1 (o:OP):BO:=match o with
 |.op ⟨k,args,f,g⟩ al=>(match g with
  |none=>cKa k args f al
  |some (p,w)=>gdB p w al f (cKa k args f al))
 |.call args f g=>(match g with
  |none=>cC1 args f
  |some (p,w)=>gdB p w ß f (cC1 args f))
 |o=>aiW o
def cOs:List OP→BO
 |[]=>.mk λ_ _ e d n k=>k e d n
 |o::r=>BO.rec (motive:=λ_=>BO) (λf=>BO.rec (motive:=λ_=>BO) (λg=>.mk λck b e d n k=>f ck b e d n λe d n=>g ck b e d n k) (cOs r)) (cO1 o)
def ahi (f g:Clo):Clo:=λck j b e d n k=>f ck j b e d n λx e d n=>Ex.rec (motive:=λ_=>RX) (g ck j b e d n k) (λid=>k (.exit id) e d n) (k .ret e d n) x
def acs (c:Gt)(f g:Clo):Clo:=λck j b e d n k=>asB (c e) λt=>bC t (f ck j b e d n k) (g ck j b e d n k)
def TG (id:Nat)(f:Clo):Clo:=λck g b e d n k=>f ck g b e d n λx e d n=>Ex.rec (motive:=λ_=>RX) (k .normal e d n) (λi=>bC (Nat.beq i id) (k .normal e d n) (k (.exit i) e d n)) (k .ret e d n) x
def agH (f:Clo):Clo:=λck g b e d n k=>Nat.rec (motive:=λ_=>Env→DM→Pos→RX) (λ_ _ _=>.no) (λ_ j e d n=>f ck g b e d n λx e d n=>Ex.rec (motive:=λ_=>RX) (j e d n) (λid=>k (.exit id) e d n) (k .ret e d n) x) g e d n
def Oh (f:OpC):Clo:=λck _ b e d n k=>f ck b e d n (k .normal)
def c2 (f:Clo→Clo→Clo)(x y:BC):BC:=BC.rec (motive:=λ_=>BC) (λx=>BC.rec (motive:=λ_=>BC) (λy=>.mk (f x y)) y) x
def c1 (f:Clo→Clo)(x:BC):BC:=BC.rec (motive:=λ_=>BC) (λx=>.mk (f x)) x
def LF:K→Bool
 |.mov=>ü|.pick=>ü|.build _ _=>ü|.load _ _=>ü|.nilchk=>ü|.bin _=>ü|.eql _ _=>ü|.un _=>ü|.cint _=>ü
 |.subs _ _=>ü|.fadr _=>ü|.fld _ _ _=>ü|.idxl _=>ü|.idxa _ _=>ü|.idxs=>ü|.look _ _ _=>ü|.ext _=>ü
 |.lens=>ü|.lenl=>ü|.lenm=>ü|.mx _=>ü|.usd=>ü|.ibs=>ü
 |_=>ß
def IE:OP→Bool
 |.op o f=>match f with
  |true=>ß
  |false=>LF o.k
 |_=>ß
def TK:List OP→Bool
 |[]=>ü
 |o::l=>match IE o with
  |true=>TK l
  |false=>ß
def E7:List OP→Nat→Bool
 |[],_=>ß
 |o::_,0=>IE o
 |_::l,i+1=>E7 l i
def Te (f:List OP):List (Nat×Nat)→List (Nat×Nat)
 |[]=>[]
 |p::r=>match E7 f p.1,E7 f p.2 with
  |true,ü=>Te f r
  |_,_=>p::Te f r
def abo (o:FO)(f:Bool)(b:HP)(e:Env)(d:DM)(r:Pos):Inf:=match j7 e (HP.ov b (ez f d r)).get r o with
 |some (out,wr)=>.op (eW wr) (trF e (HP.ov b (ez f d r)).get r o) (oJ f r wr) (qF e r o) out
 |none=>.op ö [] ü .fail .unk
def acl (o:FO)(f:OpC):DOp:=λck b _ e d r n k=>f ck b e d r λj l g=>k (abo o ß b e d r) j l g n
def okK (b:HP)(d:DM)(wr:Option (Pos×EO))(k:RX):RX:=Option.rec (motive:=λ_=>RX) k (λp=>bC (Cq (hG (.ov b d) p.1)) .no k) wr
def clK (f:Bool)(d:DM)(r:Pos)(k:DM→RX):RX:=Bool.rec (motive:=λ_=>RX) (k d) (dSK r .none d k) f
def sPi (f:Bool)(r:Pos)(k:Pos→RX):RX:=Bool.rec (motive:=λ_=>RX) (k r) (sPK r k) f
def aik (o:FO)(j:Bool)(f:List TV→Pos→Q)(p:Env→List TV)(g:St'):DOp:=λ_ b _ e d r n k=>clK j d r λl=>qK b l (f (p e) r) λout wr=>okK b l wr (sWK wr d (λJ=>sPi j r λC=>k (abo o j b e d r) (g out e) J C n))
def acj (o:FO)(f:Bool):DOp:=λ_ b _ e d r n k=>match j7 e (HP.ov b (ez f d r)).get r o with
 |some (out,wr)=>bif okW (HP.ov b (ez f d r)).get wr then k (abo o f b e d r) (aV e o.dst out) (sX d wr) (cN f r) n else .no
 |none=>.no
def L7 (ck:Callk)(b:HP)(j:List Pos)(t:Tgt)(g:List TV)(d:DM)(n:Pos)(k:Inf→TV→DM→Pos→RX):RX:=RCx (ck.call (.ov b d) t g .leaf n) λout f l=>bC (su f j) (k (.call (.ov b d) f) out (l6 f d) l) .no
def aco (ck:Callk)(b:HP)(g:List Pos)(f:List TV)(d:DM)(n:Pos)(k:Inf→TV→DM→Pos→RX):RX:=match cI (HP.ov b d).get f with
 |some (t,f)=>L7 ck b g t f d n k
 |none=>.no
def agQ (x:Gt)(v:Env→List TV)(g:St'):DOp:=λck b j e d r n k=>asC (x e) λc=>CV.rec (motive:=λ_=>RX) (λ_=>.no) (λ_ _=>.no) (λ_=>.no) .no (λ_ _ _=>.no) (λ_=>.no) .no (λ_ _ _ _ _=>.no) (λ_=>.no) .no (λ_=>.no) .no (λf=>L7 ck b j (.fn f) (v e) d n λi out d n=>k i (g out e) d r n) (λp=>aco ck b j (.pv (.one (.clo p))::v e) d n λi out d n=>k i (g out e) d r n) .no (λ_=>.no) (λ_=>.no) c
def dGd (g:Gt)(w:Bool)(j:St')(f:DOp):DOp:=λck b l e d r n k=>TV.rec (motive:=λ_=>RX) .no (λq=>PV.rec (motive:=λ_=>RX) (λc=>CV.rec (motive:=λ_=>RX) (λt=>bC (Bool.rec (motive:=λ_=>Bool) (Bool.rec (motive:=λ_=>Bool) ü ß t) t w) (f ck b l e d r n k) (k (.op ö [] ü .fail .unk) (j (.tup []) e) d r n)) (λ_ _=>.no) (λ_=>.no) .no (λ_ _ _=>.no) (λ_=>.no) .no (λ_ _ _ _ _=>.no) (λ_=>.no) .no (λ_=>.no) .no (λ_=>.no) (λ_=>.no) .no (λ_=>.no) (λ_=>.no) c) (λ_=>.no) q) (λ_=>k (.op ö [] ü .fail .unk) (j (.tup []) e) d r n) (g e)
def dC1 (args:List Src)(f:Option Pos):BD1:=match args with
 |[]=>.mk λ_ _ _ _ _ _ _ _=>.no
 |x::r=>BG.rec (motive:=λ_=>BD1) (λx=>BL.rec (motive:=λ_=>BD1) (λv=>BS.rec (motive:=λ_=>BD1) (λd=>.mk (agQ x v d)) (dB f)) (vsB r)) (vB x)
def dO1 (o:OP):BD1:=match o with
 |.op ⟨k,args,j,g⟩ al=>(match IE (.op ⟨k,args,j,g⟩ al)with
  |true=>BO.rec (motive:=λ_=>BD1) (λf=>.mk (acl ⟨k,args,j,g⟩ f)) (cO1 (.op ⟨k,args,j,g⟩ al))
  |false=>(match g with
   |none=>BE.rec (motive:=λ_=>BD1) (λf=>BL.rec (motive:=λ_=>BD1) (λv=>BS.rec (motive:=λ_=>BD1) (λd=>.mk (aik ⟨k,args,j,ö⟩ al f v d)) (dB j)) (vsB args)) (eB k)
   |some p=>.mk (acj ⟨k,args,j,ä p⟩ al)))
 |.call args j g=>(match g with
  |none=>dC1 args j
  |some (p,w)=>BD1.rec (motive:=λ_=>BD1) (λf=>BG.rec (motive:=λ_=>BD1) (λg=>BS.rec (motive:=λ_=>BD1) (λd=>.mk (dGd g w d f)) (dB j)) (gB p)) (dC1 args j))
 |_=>.mk λ_ _ _ _ _ _ _ _=>.no
def dOs:List OP→BD
 |[]=>.mk λ_ _ _ e d _ n k=>k [] e d n
 |o::l=>BD1.rec (motive:=λ_=>BD) (λf=>BD.rec (motive:=λ_=>BD) (λg=>.mk λck b j e d r n k=>f ck b j e d r n λi e d r n=>g ck b j e d r n λl e d n=>k (i::l) e d n) (dOs l)) (dO1 o)
def alN:List OP→Nat
 |[]=>0
 |.op _ ü::l=>Nat.succ (alN l)
 |_::l=>alN l
def aae (m:Nat)(b:HP):DM→Pos→(List Pos→DM→Pos→RX)→RX:=Nat.rec (motive:=λ_=>DM→Pos→(List Pos→DM→Pos→RX)→RX) (λd n k=>k [] d n) (λ_ j d n k=>frK b d n (dSK n .cz d λp=>sPK n λf=>j p f λl r g=>k (n::l) r g)) m
def aho (l:List Inf)(ps:List (Nat×Nat))(k:RX):RX:=List.rec (motive:=λ_=>RX) k (λp _ f=>bC (fy l p) f .no) ps
def drF (m:Nat)(ps:List (Nat×Nat))(g:aiN):Clo:=λck _ b e d n k=>aae m b d n λf p j=>g ck b f e p n j λl e d n=>aho l ps (k .normal e d n)
def aeb (m:Nat)(ps:List (Nat×Nat)):Bool:=ps.all λp=>Nat.blt p.1 m&&Nat.blt p.2 m
def dFc (j:List OP)(ps:List (Nat×Nat)):BC:=match TK j&&aeb j.length ps with
 |true=>BO.rec (motive:=λ_=>BC) (λf=>.mk (Oh f)) (cOs j)
 |false=>BD.rec (motive:=λ_=>BC) (λg=>.mk (drF (alN j) (Te j ps) g)) (dOs j)
def fc:FC→BC
 |.skip=>.mk λ_ _ _ e d n k=>k .normal e d n
 |.region g=>BO.rec (motive:=λ_=>BC) (λf=>.mk (Oh f)) (cOs g)
 |.drawn g ps=>dFc g ps
 |.seq x y=>c2 ahi (fc x) (fc y)
 |.cond c x y=>BG.rec (motive:=λ_=>BC) (λc=>c2 (acs c) (fc x) (fc y)) (vB c)
 |.block id x=>c1 (TG id) (fc x)
 |.loop x=>c1 agH (fc x)
 |.exit id=>.mk λ_ _ _ e d n k=>k (.exit id) e d n
 |.ret=>.mk λ_ _ _ e d n k=>k .ret e d n
 |c=>.mk λck j b e d n k=>bX (exec ck j c b e d n) k
inductive FJ where
 |no
 |ok (code:Clo) (cz:List FR) (nt:Nat)
def fj (g:ø→Option Fi)(f:ø):FJ:=match g f with
 |some x=>BC.rec (motive:=λ_=>FJ) (λc=>.ok c x.cz x.nt) (fc x.code)
 |none=>.no
abbrev Tb:=ø→HP→List TV→DM→Pos→RC
def Sr:Tb:=λ_ _ _ _ _=>.no
def Lc (a:RC)(b:RC):RC:=match a with
 |.no=>b
 |.ok v d n=>.ok v d n
def mkT (p:Tb)(r:ø→Option Fi)(g:Nat):Nat→Yk→Ck
 |0,l,b,t,args,d,n=>match t with
  |.yld j=>l b j args d n
  |.fn _=>.no
 |dp+1,l,b,t,args,d,n=>match t with
  |.yld j=>l b j args d n
  |.fn f=>Lc (p f b args d n) (match r f with
   |some x=>match Nat.ble args.length x.nt with
    |true=>ad6 b x.cz (exec (TA (mkT p r g dp) l) g x.code b (tB args .e .leaf) d n)
    |false=>.no
   |none=>.no)
def ofA (l:List TV):Env→Pos→Env:=List.rec (motive:=λ_=>Env→Pos→Env) (λe _=>e) (λa _ f e p=>f (BS.rec (motive:=λ_=>Env) (λs=>s a e) (sB p)) (sP p)) l
def lnT (l:List TV):Nat:=List.rec (motive:=λ_=>Nat) 0 (λ_ _ f=>Nat.add f 1) l
def mkR (p:Tb)(J:ø→Option Fi)(g:Nat):Nat→Yk→Ck:=λP=>Nat.rec (motive:=λ_=>Yk→Ck)
 (λl b t args d n=>Tgt.rec (motive:=λ_=>RC) (λ_=>.no) (λj=>l b j args d n) t)
 (λ_ C l b t args d n=>Tgt.rec (motive:=λ_=>RC) (λf=>RC.rec (motive:=λ_=>RC) (FJ.rec (motive:=λ_=>RC) .no (λc cz r=>Bool.rec (motive:=λ_=>RC) .no (ad6 b cz (c (TA C l) g b (ofA args .leaf .e) d n λx e d n=>.ok x e d n)) (Nat.ble (lnT args) r)) (fj J f)) (λv d n=>.ok v d n) (p f b args d n)) (λj=>l b j args d n) t) P
def PB:∀p:Pos,gB p = .mk (λe=>PM.get .unk e p)
 |.e=>by show BG.mk vl=_;congr 1;funext e;cases e <;> rfl
 |.o p=>by show BG.rec (motive:=λ_=>BG) (λg=>.mk λt=>g (lf t)) (gB p)=_;rw[PB p];show BG.mk (λt=>PM.get .unk (lf t) p)=_;congr 1;funext e;cases e <;> rfl
 |.i p=>by show BG.rec (motive:=λ_=>BG) (λg=>.mk λt=>g (rt t)) (gB p)=_;rw[PB p];show BG.mk (λt=>PM.get .unk (rt t) p)=_;congr 1;funext e;cases e <;> rfl
def Ui:∀p:Pos,sB p = .mk (λx t=>PM.set .unk p t x)
 |.e=>by show BS.mk _=_;congr 1;funext x e;cases e <;> rfl
 |.o p=>by show BS.rec (motive:=λ_=>BS) (λs=>.mk λx t=>PM.rec (motive:=λ_=>Env) (.node (s x .leaf) .unk .leaf) (λl a r _ _=>.node (s x l) a r) t) (sB p)=_;rw[Ui p];show BS.mk _=_;congr 1;funext x e;cases e <;> rfl
 |.i p=>by show BS.rec (motive:=λ_=>BS) (λs=>.mk λx t=>PM.rec (motive:=λ_=>Env) (.node .leaf .unk (s x .leaf)) (λl a r _ _=>.node l a (s x r)) t) (sB p)=_;rw[Ui p];show BS.mk _=_;congr 1;funext x e;cases e <;> rfl
def wH (s:Src):vB s = .mk (λe=>bm e s):=by
 cases s with
 |t p=>exact PB p
 |c v=>rfl
def Ae (d:Option Pos):dB d = .mk (λv e=>aV e d v):=by
 cases d with
 |none=>rfl
 |some p=>exact Ui p
def Km:∀l:List Src,vsB l = .mk (λe=>aT e l)
 |[]=>rfl
 |s::l=>by show BG.rec (motive:=λ_=>BL) (λg=>BL.rec (motive:=λ_=>BL) (λh=>.mk λe=>g e::h e) (vsB l)) (vB s)=_;rw[Km l,wH s];rfl
def acn:∀(k:Pos) (d:DM),dG k d=PM.get ö d k
 |.e,d=>by cases d <;> rfl
 |.o k,d=>by show dG k (dlf d)=_;rw[acn k];cases d <;> rfl
 |.i k,d=>by show dG k (drt d)=_;rw[acn k];cases d <;> rfl
def oM (o:EO):∀(k:Pos) (d:DM) (K:DM→RX),dSK k o d K=K (fA d k o)
 |.e,d,K=>by cases d <;> rfl
 |.o k,d,K=>by
  cases d with
  |leaf=>exact oM o k .leaf _
  |node l a r=>exact oM o k l _
 |.i k,d,K=>by
  cases d with
  |leaf=>exact oM o k .leaf _
  |node l a r=>exact oM o k r _
def xy:∀(p:Pos) (K:Pos→RX),sPK p K=K p.succ
 |.e,_=>rfl
 |.o _,_=>rfl
 |.i p,K=>xy p λq=>K (.o q)
def agw:∀p:Pos,sP p=p.succ
 |.e=>rfl
 |.o _=>rfl
 |.i p=>by show Pos.o (sP p)=_;rw[agw p];rfl
def Ut:∀p:Pos,pN p=p.num
 |.e=>rfl
 |.o p=>by show Nat.add (Nat.mul 2 (pN p)) 1=_;rw[Ut p];rfl
 |.i p=>by show Nat.add (Nat.mul 2 (pN p)) 2=_;rw[Ut p];rfl
def zS:∀(b:HP) (k:Pos),hG b k=b.get k
 |.nil,_=>rfl
 |.ov b d,k=>by show Option.rec (motive:=λ_=>EO) (hG b k) (λo=>o) (dG k d)=_;rw[zS b,acn];simp[HP.get];cases PM.get ö d k <;> rfl
 |.cut b n,k=>by show Bool.rec (motive:=λ_=>EO) .none (hG b k) (Nat.blt (pN k) (pN n))=_;rw[zS b,Ut,Ut];simp[HP.get];cases Nat.blt k.num n.num <;> rfl
def Gv (b:HP)(d:DM)(n:Pos)(k:RX):frK b d n k=bif bz ü (HP.ov b d).get n then k else .no:=by unfold frK;rw[zS];simp[bz];cases(HP.ov b d).get n <;> rfl
def mP (t:Bool)(a b:RX):bC t a b=cond t a b:=by cases t <;> rfl
def agG (n:Int)(k:Int→RX):nI n k=k n:=by
 cases n with
 |ofNat m=>cases m <;> rfl
 |negSucc m=>cases m <;> rfl
def FM (n:Nat)(k:Nat→RX):nN n k=k n:=by cases n <;> rfl
def AM (wr:Option (Pos×EO))(d:DM)(k:DM→RX):sWK wr d k=k (sX d wr):=by
 cases wr with
 |none=>rfl
 |some p=>exact oM p.2 p.1 d k
def E4 (b:HP)(d:DM)(k:TV→Option (Pos×EO)→RX):∀q:Q,qK b d q k=match q.run (HP.ov b d).get with
  |some (out,wr)=>k out wr
  |none=>.no
 |.fail=>rfl
 |.ret _ _=>rfl
 |.rd p f=>by show qK b d (f (hG (.ov b d) p)) k=_;rw[E4 b d k (f (hG (.ov b d) p)),zS];rfl
def CQ (o:OP):OpC:=λck b e d n k=>match aQ ck b [o] e d n with
 |.ok e d n=>k e d n
 |.no=>.no
def Up (o:FO)(f:Bool):CQ (.op o f)=bZ o f:=by
 funext ck b e d n k;simp[CQ,bZ,aQ];cases bz f (HP.ov b d).get n with
 |false=>rfl
 |true =>simp;cases j7 e (HP.ov b d).get n o <;> rfl
section
variable (x y z:Src)(r:Option Pos)
def bg (e:Env)(h:Pos→EO)(f:Pos)(k:K)(args:List Src):j7 e h f ⟨k,args,r,ö⟩=(dR k (aT e args) f).run h:=rfl
def acX (k:K)(args:List Src):Vw (dR k) (λe=>aT e args) (λv e=>aV e r v)=bZ ⟨k,args,r,ö⟩ false:=by
 funext ck b e d n K;simp[Vw,bZ,E4,bg,bz];cases(dR k (aT e args) n).run (HP.ov b d).get with
 |none=>rfl
 |some p=>exact AM _ _ _
def acW (k:K)(args:List Src):Vv (dR k) (λe=>aT e args) (λv e=>aV e r v)=bZ ⟨k,args,r,ö⟩ true:=by
 funext ck b e d n K;simp[Vv,bZ,E4,bg,Gv];cases bz ü (HP.ov b d).get n with
 |false=>rfl
 |true=>
  simp;cases(dR k (aT e args) n).run (HP.ov b d).get with
  |none=>rfl
  |some p=>simp[AM,xy];rfl
def af2:ajh (λe=>bm e x) (λv e=>aV e r v)=bZ ⟨.mov,[x],r,ö⟩ false:=rfl
def acI:acJ (λe=>bm e x) (λe=>bm e y) (λe=>bm e z) (λv e=>aV e r v)=bZ ⟨.pick,[x,y,z],r,ö⟩ false:=by
 funext ck b e d n K;simp[acJ,bZ,bg,bz,dR,aT];generalize bm e x=v;obtain _|p|l:=v
 ·rfl
 ·obtain c|l:=p
  ·cases c with
   |bl t=>cases t <;> rfl
   |_=>rfl
  ·rfl
 ·rfl
def af0:aiw (λe=>bm e x) (λv e=>aV e r v)=bZ ⟨.un .not,[x],r,ö⟩ false:=by
 funext ck b e d n K;simp[aiw,bZ,bg,bz,dR,aT];generalize bm e x=v;obtain _|p|l:=v
 ·rfl
 ·obtain c|l:=p
  ·cases c with
   |bl t=>cases t <;> rfl
   |_=>rfl
  ·rfl
 ·rfl
def acY (c:Nat):acZ c (λe=>bm e x) (λv e=>aV e r v)=bZ ⟨.fadr c,[x],r,ö⟩ false:=by
 funext ck b e d n K;simp[acZ,bZ,bg,bz,dR,aT,FM];generalize bm e x=v;obtain _|p|l:=v
 ·rfl
 ·obtain c|l:=p
  ·cases c <;> rfl
  ·rfl
 ·rfl
def aa0:∀l:List Nat,lnN l=l.length
 |[]=>rfl
 |_::l=>by show Nat.add (lnN l) 1=_;rw[aa0 l];rfl
def Lw:∀l:List CV,lnC l=l.length
 |[]=>rfl
 |_::l=>by show Nat.add (lnC l) 1=_;rw[Lw l];rfl
def aaZ:∀l:List TV,lnT l=l.length
 |[]=>rfl
 |_::l=>by show Nat.add (lnT l) 1=_;rw[aaZ l];rfl
def acM:acN (λe=>bm e x) (λv e=>aV e r v)=bZ ⟨.lens,[x],r,ö⟩ false:=by
 funext ck b e d n K;simp[acN,bZ,bg,bz,dR,aT,FM];generalize bm e x=v;obtain _|p|l:=v
 ·rfl
 ·obtain c|l:=p
  ·cases c with
   |str s =>simp[Jy,gc,xJ,Q.run,asS,asC,aa0];rfl
   |_=>rfl
  ·rfl
 ·rfl
def acO:acP (λe=>bm e x) (λv e=>aV e r v)=bZ ⟨.lenl,[x],r,ö⟩ false:=by
 funext ck b e d n K;simp[acP,bZ,bg,bz,dR,aT,FM];generalize bm e x=v;obtain _|p|l:=v
 ·rfl
 ·obtain c|l:=p
  ·cases c with
   |sl p g o n c =>simp[Jz,gc,xJ,Q.run,asC];rfl
   |_=>rfl
  ·rfl
 ·rfl
def af1:aix (λe=>bm e x) (λv e=>aV e r v)=bZ ⟨.nilchk,[x],r,ö⟩ false:=by
 funext ck b e d n K;simp[aix,bZ,bg,bz,dR,aT];generalize bm e x=v;obtain _|p|l:=v
 ·rfl
 ·obtain c|l:=p
  ·cases c <;> rfl
  ·rfl
 ·rfl
def UB (k:PV→RX):∀(l:List PV) (i:Nat),aeI l i k=match l.drop i with
  |p::_=>k p
  |[]=>.no
 |[],i=>by simp[aeI]
 |a::l,0=>rfl
 |a::l,i+1=>by show aeI l i k=_;rw[UB k l i];rfl
def ac0 (i:Nat):ac1 i (λe=>bm e x) (λv e=>aV e r v)=bZ ⟨.ext i,[x],r,ö⟩ false:=by
 funext ck b e d n K;simp[ac1,bZ,bg,bz,dR,aT,UB];generalize bm e x=v;obtain _|p|l:=v
 ·rfl
 ·rfl
 ·simp[Yg,tuK];cases l.drop i <;> rfl
def UC (k:Nat→RX):∀(l:List Nat) (i:Nat),aeJ l i k=match l.drop i with
  |p::_=>k p
  |[]=>.no
 |[],i=>by simp[aeJ]
 |a::l,0=>rfl
 |a::l,i+1=>by show aeJ l i k=_;rw[UC k l i];rfl
def acS:acT (λe=>bm e x) (λe=>bm e y) (λv e=>aV e r v)=bZ ⟨.idxs,[x,y],r,ö⟩ false:=by
 funext ck b e d n K;simp[acT,bZ,bg,bz,dR,aT,FM,UC];generalize bm e x=v;generalize bm e y=u;obtain _|p|l:=v
 ·rfl
 ·obtain c|l:=p
  ·cases c with
   |str s=>
    obtain _|p|l:=u
    ·rfl
    ·obtain c|l:=p
     ·cases c with
      |int f i=>
       cases i with
       |ofNat i=>
        simp[JA,asS,asC,asI];cases s.drop i with
        |nil=>rfl
        |cons c t=>simp[gc,xJ,Q.run];rfl
       |negSucc i=>rfl
      |_=>rfl
     ·rfl
    ·rfl
   |_=>rfl
  ·rfl
 ·rfl
def acU (s:Nat):acV s (λe=>bm e x) (λe=>bm e y) (λv e=>aV e r v)=bZ ⟨.idxl s,[x,y],r,ö⟩ false:=by
 funext ck b e d n K;simp[acV,bZ,bg,bz,dR,aT,FM];generalize bm e x=v;generalize bm e y=u;obtain _|p|l:=v
 ·rfl
 ·obtain c|l:=p
  ·cases c with
   |sl p g o m c=>
    obtain _|p|l:=u
    ·rfl
    ·obtain c|l:=p
     ·cases c with
      |int f i=>
       cases i with
       |ofNat i =>simp[JB,asL,asC,asI,mP];cases Nat.blt i m <;> rfl
       |negSucc i=>rfl
      |_=>rfl
     ·rfl
    ·rfl
   |_=>rfl
  ·rfl
 ·rfl
def v8 (f:Int→Int→Bool)(fn:Nat→Nat→Bool)(op:BinOp)(T:∀k a b,Ha op k a b=th (f a b))(R:∀a b,fn a b=f (.ofNat a) (.ofNat b))(P:op ≠ .shl∧op ≠ .shr):Qv f fn op (λe=>bm e x) (λe=>bm e y) (λv e=>aV e r v)=bZ ⟨.bin op,[x,y],r,ö⟩ false:=by
 funext ck b e d n K;simp[Qv,bZ,bg,bz,dR,aT,E4];generalize bm e x=v;generalize bm e y=u;have J:(match (sC op [v,u] n).run (HP.ov b d).get with|some (out,wr)=>sWK wr d λd=>K (aV e r out) d n|none=>RX.no)=(match (sC op [v,u] n).run (HP.ov b d).get with|some (out,wr)=>K (aV e r out) (sX d wr) (cN ß n)|none=>.no):=by
  cases(sC op [v,u] n).run (HP.ov b d).get with
  |none=>rfl
  |some p=>exact AM _ _ _
 obtain _|p|l:=v
 ·rfl
 ·obtain c|l:=p
  ·cases c with
   |int j a=>
    simp[asI,asC];obtain _|p|l:=u
    ·rfl
    ·obtain c|l:=p
     ·cases c with
      |int C g=>
       have e1:sC op [.pv (.one (.int j a)),.pv (.one (.int C g))] n=bif kq j C then Ha op j a g else .fail:=by
        cases op <;> first|rfl|exact absurd rfl P.1|exact absurd rfl P.2
       rw[e1,T];simp[mP];cases kq j C with
       |false=>rfl
       |true=>
        have U:i2 a g (λa g=>bif fn a g then K (aV e r (oB ü)) d n else K (aV e r (oB ß)) d n) (bif f a g then K (aV e r (oB ü)) d n else K (aV e r (oB ß)) d n)=K (aV e r (oB (f a g))) d n:=by
         cases a with
         |ofNat a=>
          cases g with
          |ofNat g =>show(bif fn a g then K (aV e r (oB ü)) d n else K (aV e r (oB ß)) d n)=_;rw[R];cases f (.ofNat a) (.ofNat g) <;> rfl
          |negSucc g=>show(bif f _ _ then _ else _)=_;cases f (.ofNat a) (.negSucc g) <;> rfl
         |negSucc a=>show(bif f _ _ then _ else _)=_;cases f (.negSucc a) g <;> rfl
        simp;rw[U];rfl
      |_=>rfl
     ·rfl
    ·rfl
   |_=>exact J
  ·rfl
 ·rfl
def YZ (s:Nat)(h:Nat.blt s 9223372036854775808=ü):IntKind.wrap .i64 (.ofNat s) = .ofNat s:=by
 have h:=cB.1 h;have f:(s:Int)%(2^64:Int)=s:=Ω
 have g:IntKind.wrap .i64 (s:Int)=if (ü&&decide ((s:Int)%(2^64:Int)≥(2^63:Int)))=ü then(s:Int)%(2^64:Int)-(2^64:Int)else(s:Int)%(2^64:Int):=rfl
 show IntKind.wrap .i64 (s:Int)=(s:Int);rw[g,ω]
 ·exact f
 ·simp[f];omega
def U0 {k:IntKind}(h:SS k=ü):k = .i64:=by cases k <;> first|rfl|cases h
def af7:aiF (λe=>bm e x) (λe=>bm e y) (λv e=>aV e r v)=bZ ⟨.bin .add,[x,y],r,ö⟩ false:=by
 funext ck b e d n K;simp[aiF,bZ,bg,bz,dR,aT,E4,agG,FM];generalize bm e x=v;generalize bm e y=u;have J:(match (sC .add [v,u] n).run (HP.ov b d).get with|some (out,wr)=>sWK wr d λd=>K (aV e r out) d n|none=>RX.no)=(match (sC .add [v,u] n).run (HP.ov b d).get with|some (out,wr)=>K (aV e r out) (sX d wr) (cN ß n)|none=>.no):=by
  cases(sC .add [v,u] n).run (HP.ov b d).get with
  |none=>rfl
  |some p=>exact AM _ _ _
 obtain _|p|l:=v
 ·rfl
 ·obtain c|l:=p
  ·cases c with
   |int f a=>
    simp[asI,asC];obtain _|p|l:=u
    ·rfl
    ·obtain c|l:=p
     ·cases c with
      |int P g=>
       show bC _ _ _=match (cond (kq f P) (Ha .add f a g) .fail).run (HP.ov b d).get with|some (out,wr)=>_|none=>_
       simp[mP];cases kq f P with
       |false=>rfl
       |true=>
        simp[Ha,gc,xJ,Q.run];have tail:∀m:Int,m=f.wrap (a+g)→K (aV e r (oI f m)) d n=K (aV e r (.pv (.one (.int f (f.wrap (a+g)))))) (sX d ö) (cN ß n):=λm R=>by rw[R];rfl
        cases a with
        |negSucc a=>exact tail _ rfl
        |ofNat a=>
         cases g with
         |negSucc g=>exact tail _ rfl
         |ofNat g=>
          show(bif SS f then bif Nat.blt (Nat.add a g) 9223372036854775808 then _ else _ else _)=_;cases C:SS f with
          |false=>exact tail _ rfl
          |true=>
           have:=U0 C;subst this;simp;cases j:Nat.blt (Nat.add a g) 9223372036854775808 with
           |false=>exact tail _ rfl
           |true=>exact tail _ (YZ _ j).symm
      |_=>rfl
     ·rfl
    ·rfl
   |_=>exact J
  ·rfl
 ·rfl
def afY:aiv (λe=>bm e x) (λe=>bm e y) (λv e=>aV e r v)=bZ ⟨.bin .sub,[x,y],r,ö⟩ false:=by
 funext ck b e d n K;simp[aiv,bZ,bg,bz,dR,aT,E4,agG,FM];generalize bm e x=v;generalize bm e y=u;have P:(match (sC .sub [v,u] n).run (HP.ov b d).get with|some (out,wr)=>sWK wr d λd=>K (aV e r out) d n|none=>RX.no)=(match (sC .sub [v,u] n).run (HP.ov b d).get with|some (out,wr)=>K (aV e r out) (sX d wr) (cN ß n)|none=>.no):=by
  cases(sC .sub [v,u] n).run (HP.ov b d).get with
  |none=>rfl
  |some p=>exact AM _ _ _
 obtain _|p|l:=v
 ·rfl
 ·obtain c|l:=p
  ·cases c with
   |int g a=>
    simp[asI,asC];obtain _|p|l:=u
    ·rfl
    ·obtain c|l:=p
     ·cases c with
      |int R f=>
       show bC _ _ _=match (cond (kq g R) (Ha .sub g a f) .fail).run (HP.ov b d).get with|some (out,wr)=>_|none=>_
       simp[mP];cases kq g R with
       |false=>rfl
       |true=>
        simp[Ha,gc,xJ,Q.run];have tail:∀m:Int,m=g.wrap (a-f)→K (aV e r (oI g m)) d n=K (aV e r (.pv (.one (.int g (g.wrap (a-f)))))) (sX d ö) (cN ß n):=λm T=>by rw[T];rfl
        cases a with
        |negSucc a=>exact tail _ rfl
        |ofNat a=>
         cases f with
         |negSucc f=>exact tail _ rfl
         |ofNat f=>
          show(bif Nat.ble f a then bif SS g then bif Nat.blt a 9223372036854775808 then _ else _ else _ else _)=_;cases C:Nat.ble f a with
          |false=>exact tail _ rfl
          |true=>
           simp;cases J:SS g with
           |false=>exact tail _ rfl
           |true=>
            have:=U0 J;subst this;simp;cases j:Nat.blt a 9223372036854775808 with
            |false=>exact tail _ rfl
            |true=>
             have C:=br.1 C;have j:=cB.1 j;have U:(Int.ofNat a-Int.ofNat f:Int)=Int.ofNat (Nat.sub a f):=by show(a:Int)-(f:Int)=((a-f:Nat):Int);omega
             refine tail _ ?_;rw[U];exact(YZ _ (cB.2 (D? (Nat.sub_le a f) j))).symm
      |_=>rfl
     ·rfl
    ·rfl
   |_=>exact P
  ·rfl
 ·rfl
def K2:∀(t:PT Ch) (i:Nat),ptG t i=t.get dch i
 |.leaf,_=>rfl
 |.node l a r,0=>rfl
 |.node l a r,i+1=>by
  show Bool.rec (motive:=λ_=>Ch) (ptG r (Nat.div i 2)) (ptG l (Nat.div i 2)) (Nat.beq (Nat.mod i 2) 0)=_;rw[K2 l,K2 r];show _=match Nat.beq (i%2) 0 with|true=>l.get dch (i/2)|false=>r.get dch (i/2)
  show Bool.rec (motive:=λ_=>Ch) (r.get dch (i/2)) (l.get dch (i/2)) (Nat.beq (i%2) 0)=_;cases Nat.beq (i%2) 0 <;> rfl
def Tr:∀(l:List CV) (n:Nat),drC l n=l.drop n
 |[],n=>by simp[drC]
 |_::_,0=>rfl
 |_::l,n+1=>Tr l n
def Q8:∀(l:List CV) (n:Nat),tkC l n=l.take n
 |[],n=>by simp[tkC]
 |_::_,0=>rfl
 |a::l,n+1=>by show a::tkC l n=_;rw[Q8 l n];rfl
def adf (m:List CV):∀l:List CV,apC l m=l++m
 |[]=>rfl
 |a::l=>by show a::apC l m=_;rw[adf m l];rfl
def ahe (g:List CV)(f:Nat)(new:List CV):spC g f new=dh g f new:=by simp only[spC,dh,adf,Q8,Tr,Lw,G_];rfl
def R1 (x:Ch):∀(f:Nat) (t:PT Ch) (i:Nat),ptS f t i x=PT.set dch f t i x
 |0,_,_=>rfl
 |f+1,t,0=>by cases t <;> rfl
 |f+1,t,i+1=>by
  show Bool.rec (motive:=λ_=>PT Ch) (.node (pgL t) (pgV t) (ptS f (pgR t) (Nat.div i 2) x)) (.node (ptS f (pgL t) (Nat.div i 2) x) (pgV t) (pgR t)) (Nat.beq (Nat.mod i 2) 0)=_;rw[R1 x f,R1 x f];show Bool.rec (motive:=λ_=>PT Ch) (.node (pgL t) (pgV t) (PT.set dch f (pgR t) (i/2) x)) (.node (PT.set dch f (pgL t) (i/2) x) (pgV t) (pgR t)) (Nat.beq (i%2) 0)=_;cases t with
  |leaf =>simp[PT.set];cases Nat.beq (i%2) 0 <;> rfl
  |node l a r =>simp[PT.set];cases Nat.beq (i%2) 0 <;> rfl
def aah (b:HP)(d:DM)(p:Pos)(g f m:Nat)(K:List CV→RX):rdK b d p g f m K=match (HP.ov b d).get p with
  |.row _ s r len j _=>bif Nat.ble g j&&Nat.blt (f/s) len then
    match r.get dch (f/s)with
    |⟨C,l⟩=>bif Nat.ble l g&&Nat.ble (f%s+m) s then K (C.drop (f%s))else .no
   else .no
  |_=>.no:=by
 unfold rdK;rw[zS];cases(HP.ov b d).get p with
 |row t s r len j fz=>
  show bC (Nat.ble g j) (bC (Nat.blt (f/s) len) (chK (ptG r (f/s)) λC l=>bC (Nat.ble l g) (bC (Nat.ble (f%s+m) s) (K (drC C (f%s))) .no) .no) .no) .no=_;simp[mP,K2,Tr];cases Nat.ble g j with
  |false=>rfl
  |true=>
   cases Nat.blt (f/s) len with
   |false=>rfl
   |true=>
    simp;cases r.get dch (f/s)with
    |mk C l=>
     show(bif Nat.ble l g then(bif Nat.ble (f%s+m) s then _ else _)else _)=_;cases Nat.ble l g with
     |false=>rfl
     |true=>cases Nat.ble (f%s+m) s <;> rfl
 |_=>rfl
def O5 (h:Pos→EO)(s:Nat)(agg:Bool)(p:Pos)(g j:Nat)(f:Pos):(GL s agg [.pv (.one (.ptr p g j))] f).run h=match h p with
  |.row _ l J len r _=>bif Nat.ble g r&&Nat.blt (j/l) len then
    match J.get dch (j/l)with
    |⟨P,C⟩=>bif Nat.ble C g&&Nat.ble (j%l+s) l then(match Kr agg ((P.drop (j%l)).take s)with|some p=>ä (.pv p,ö)|none=>ö)else ö
   else ö
  |_=>none:=by
 simp[GL,Q.run,E2];cases h p with
 |row t l J len r fz=>
  simp only;cases(Nat.ble g r&&Nat.blt (j/l) len)with
  |false=>rfl
  |true=>
   simp;cases J.get dch (j/l)with
   |mk P C=>
    simp only;cases(Nat.ble C g&&Nat.ble (j%l+s) l)with
    |false=>rfl
    |true =>simp;cases Kr agg ((P.drop (j%l)).take s) <;> rfl
 |_=>rfl
def af4:aiz (λe=>bm e x) (λv e=>aV e r v)=bZ ⟨.load 1 ß,[x],r,ö⟩ false:=by
 funext ck b e d n K;simp[aiz,bZ,bg,bz,dR,aT,aah];generalize bm e x=v;obtain _|p|l:=v
 ·rfl
 ·obtain c|l:=p
  ·cases c with
   |ptr p g f=>
    rw[O5];simp[asR,asC];cases(HP.ov b d).get p with
    |row t j P len C fz=>
     simp only;cases(Nat.ble g C&&Nat.blt (f/j) len)with
     |false=>rfl
     |true=>
      simp;cases P.get dch (f/j)with
      |mk R J=>
       simp only;cases(Nat.ble J g&&Nat.ble (f%j+1) j)with
       |false=>rfl
       |true =>simp;cases R.drop (f%j) <;> rfl
    |_=>rfl
   |_=>rfl
  ·rfl
 ·rfl
def af3 (s:Nat):aiy s (λe=>bm e x) (λv e=>aV e r v)=bZ ⟨.load s ü,[x],r,ö⟩ false:=by
 funext ck b e d n K;simp[aiy,bZ,bg,bz,dR,aT,aah,Q8];generalize bm e x=v;obtain _|p|l:=v
 ·rfl
 ·obtain c|l:=p
  ·cases c with
   |ptr p g f=>
    rw[O5];simp[asR,asC];cases(HP.ov b d).get p with
    |row t j P len C fz=>
     simp only;cases(Nat.ble g C&&Nat.blt (f/j) len)with
     |false=>rfl
     |true=>
      simp;cases P.get dch (f/j)with
      |mk R J=>
       simp only;cases(Nat.ble J g&&Nat.ble (f%j+s) j)with
       |false=>rfl
       |true=>rfl
    |_=>rfl
   |_=>rfl
  ·rfl
 ·rfl
def acC (p:PV):clP p=p.cells:=by cases p <;> rfl
def Wp (h:Pos→EO)(s:Nat)(p:Pos)(g j:Nat)(v:PV)(f:Pos):(Bq s [.pv (.one (.ptr p g j)),.pv v] f).run h=bif Nat.beq v.cells.length s then(match h p with
  |.row t l C len r fz=>bif Nat.beq g r&&Nat.blt (j/l) len&&Nat.ble (j%l+v.cells.length) l&&PC fz then
    match C.get dch (j/l)with
    |⟨J,_⟩=>ä (.unk,ä (p,.row t l (C.set dch 32 (j/l) ⟨dh J (j%l) v.cells,r⟩) len r fz))
   else ö
  |_=>ö)else none:=by
 simp[Bq];cases Nat.beq v.cells.length s with
 |false=>rfl
 |true=>
  simp[Q.run,DT];cases h p with
  |row t l C len r fz=>
   simp only;cases(Nat.beq g r&&Nat.blt (j/l) len&&Nat.ble (j%l+v.cells.length) l&&PC fz)with
   |false=>rfl
   |true=>
    simp;cases C.get dch (j/l)with
    |mk J P=>rfl
  |_=>rfl
def YA (m:Nat):TB m (λe=>bm e x) (λe=>bm e y) (λv e=>aV e r v)=bZ ⟨.store m,[x,y],r,ö⟩ false:=by
 funext ck b e d n K;simp[TB,bZ,bg,bz,dR,aT,zS,acC,Lw,oM];generalize bm e x=v;generalize bm e y=u;obtain _|p|l:=v
 ·rfl
 ·obtain c|l:=p
  ·cases c with
   |ptr p g f=>
    obtain _|u|l:=u
    ·rfl
    ·rw[Wp];simp[asR,asC,asP,mP];cases J:Nat.beq u.cells.length m with
     |false=>rfl
     |true=>
      have J:u.cells.length=m:=ν J;simp;cases(HP.ov b d).get p with
      |row t j P len C fz=>
       simp[roW,J];cases Nat.beq g C with
       |false=>rfl
       |true=>
        show(bif Nat.blt (f/j) len then(bif Nat.ble (f%j+m) j then fzK fz (chK (ptG P (f/j)) λR _=>K (aV e r .unk) (fA d p (.row t j (ptS 32 P (f/j) ⟨spC R (f%j) u.cells,C⟩) len C fz)) n)else .no)else .no)=_;cases Nat.blt (f/j) len with
        |false=>rfl
        |true=>
         cases Nat.ble (f%j+m) j with
         |false=>rfl
         |true=>
          simp[R1,ahe,K2];cases fz with
          |no=>
           simp[fzK,PC];cases P.get dch (f/j)with
           |mk R T=>rfl
          |_=>rfl
      |_=>rfl
    ·rfl
   |_=>obtain _|u|l:=u <;> rfl
  ·obtain _|u|l:=u <;> rfl
 ·obtain _|u|l:=u <;> rfl
def YB (t:æ)(f:List CV):TE t f (λv e=>aV e r v)=bZ ⟨.alloc t f,[],r,ö⟩ true:=by funext ck b e d n K;simp[TE,bZ,bg,Gv,oM,xy];cases bz ü (HP.ov b d).get n <;> rfl
def af6 (t:æ)(s:Nat):aiE t s (λe=>bm e x) (λv e=>aV e r v)=bZ ⟨.box t s,[x],r,ö⟩ true:=by
 funext ck b e d n K;simp[aiE,bZ,bg,Gv,oM,xy,aT,dR,acC,Lw];cases bz ü (HP.ov b d).get n with
 |false=>rfl
 |true=>
  simp;generalize bm e x=v;obtain _|p|l:=v
  ·rfl
  ·simp[asP,mP,ab7];cases Nat.beq p.cells.length s <;> rfl
  ·rfl
end
def ab8 (k:K):eB k = .mk (dR k):=by cases k <;> rfl
def wZ (f:Gt→St'→OpC)(x:Src)(r:Option Pos):m1 f x r = .mk (f (λe=>bm e x) (λv e=>aV e r v)):=by unfold m1;rw[wH,Ae]
def tK (f:Gt→Gt→St'→OpC)(x y:Src)(r:Option Pos):m2 f x y r = .mk (f (λe=>bm e x) (λe=>bm e y) (λv e=>aV e r v)):=by unfold m2;rw[wH,wH,Ae]
def ai9 (f:Gt→Gt→Gt→St'→OpC)(x y z:Src)(r:Option Pos):m3 f x y z r = .mk (f (λe=>bm e x) (λe=>bm e y) (λe=>bm e z) (λv e=>aV e r v)):=by unfold m3;rw[wH,wH,wH,Ae]
def aaV (f:(Env→List TV)→St'→OpC)(l:List Src)(r:Option Pos):mL f l r = .mk (f (λe=>aT e l) (λv e=>aV e r v)):=by unfold mL;rw[Km,Ae]
def aff (k:K)(args:List Src)(r:Option Pos):afg k args r = .mk (bZ ⟨k,args,r,ö⟩ ß):=by unfold afg;rw[ab8];show mL (Vw (dR k)) args r=_;rw[aaV,acX]
def afe (k:K)(args:List Src)(r:Option Pos):ah6 k args r = .mk (bZ ⟨k,args,r,ö⟩ ü):=by unfold ah6;rw[ab8];show mL (Vv (dR k)) args r=_;rw[aaV,acW]
def aeK (b:Bool):(Bool.rec (motive:=λ_=>Bool) ü ß b:Bool) = !b:=by cases b <;> rfl
def aiB (k:K)(args:List Src)(r:Option Pos):cK0 k args r = .mk (bZ ⟨k,args,r,ö⟩ ß):=by
 unfold cK0;split
 ·rw[wZ,af2]
 ·rw[ai9,acI]
 ·rw[tK,acS]
 ·rw[wZ,acM]
 ·rw[wZ,acO]
 ·rw[wZ,acY]
 ·rw[tK,YA]
 ·rw[tK,acU]
 ·rw[wZ,af4]
 ·rw[wZ,af3]
 ·rw[wZ,af1]
 ·rw[wZ,ac0]
 ·rw[wZ,af0]
 ·rw[tK,v8 _ _ _ _ _ _ (λ_ _ _=>rfl) (λa b=>by
   cases h:Nat.beq a b with
   |true=>rw[ν h];simp
   |false=>have:=J_ h;symm;simp;omega) ⟨by decide,by decide⟩]
 ·rw[tK,v8 _ _ _ _ _ _ (λ_ _ _=>rfl) (λa b=>by
   rw[aeK];cases h:Nat.beq a b with
   |true=>rw[ν h];simp
   |false=>have:=J_ h;symm;simp;omega) ⟨by decide,by decide⟩]
 ·rw[tK,v8 _ _ _ _ _ _ (λ_ _ _=>rfl) (λa b=>by
   cases h:Nat.blt a b with
   |true=>have:=cB.1 h;symm;simp;omega
   |false=>
    have:¬a<b:=λq=>by rw[cB.2 q]at h;cases h
    symm;simp;omega) ⟨by decide,by decide⟩]
 ·rw[tK,v8 _ _ _ _ _ _ (λ_ _ _=>rfl) (λa b=>by
   cases h:Nat.ble a b with
   |true=>have:=br.1 h;symm;simp;omega
   |false=>
    have:¬a≤b:=λq=>by rw[br.2 q]at h;cases h
    symm;simp;omega) ⟨by decide,by decide⟩]
 ·rw[tK,v8 _ _ _ _ _ _ (λ_ _ _=>rfl) (λa b=>by
   cases h:Nat.blt b a with
   |true=>have:=cB.1 h;symm;simp;omega
   |false=>
    have:¬b<a:=λq=>by rw[cB.2 q]at h;cases h
    symm;simp;omega) ⟨by decide,by decide⟩]
 ·rw[tK,v8 _ _ _ _ _ _ (λ_ _ _=>rfl) (λa b=>by
   cases h:Nat.ble b a with
   |true=>have:=br.1 h;symm;simp;omega
   |false=>
    have:¬b≤a:=λq=>by rw[br.2 q]at h;cases h
    symm;simp;omega) ⟨by decide,by decide⟩]
 ·rw[tK,af7]
 ·rw[tK,afY]
 ·exact aff _ _ _
def aiA (k:K)(args:List Src)(r:Option Pos):cK1 k args r = .mk (bZ ⟨k,args,r,ö⟩ ü):=by
 unfold cK1;split
 ·rw[Ae];show BO.mk _=_;rw[YB]
 ·rw[wZ,af6]
 ·exact afe _ _ _
def acQ (k:K)(args:List Src)(r:Option Pos)(f:Bool):cKa k args r f = .mk (bZ ⟨k,args,r,ö⟩ f):=by
 cases f with
 |false=>exact aiB k args r
 |true=>exact aiA k args r
def aiC (p:Pos)(w f:Bool)(k:K)(args:List Src)(r:Option Pos):cGd (λe=>PM.get .unk e p) w f (λv e=>aV e r v) (bZ ⟨k,args,r,ö⟩ f)=bZ ⟨k,args,r,ä (p,w)⟩ f:=by
 funext ck b e d n K;simp[cGd,Gv,xy];have C:bZ ⟨k,args,r,ä (p,w)⟩ f ck b e d n K=bif bz f (HP.ov b d).get n then(match (match (match e.get .unk p with
   |.pv (.one (.bl b))=>ä (match w with|true=>b|false=>!b)
   |.tup _=>ä ß
   |_=>ö)with
   |some J=>match J with
    |true=>(dR k (aT e args) n).run (HP.ov b d).get
    |false=>ä (.tup [],ö)
   |none=>ö)with
  |some (out,wr)=>K (aV e r out) (sX d wr) (cN f n)
  |none=>.no)else .no:=rfl
 rw[C];have j:∀K,bZ ⟨k,args,r,ö⟩ f ck b e d n K=bif bz f (HP.ov b d).get n then(match (dR k (aT e args) n).run (HP.ov b d).get with
  |some (out,wr)=>K (aV e r out) (sX d wr) (cN f n)
  |none=>.no)else .no:=λ_=>rfl
 have g:(Bool.rec (motive:=λ_=>RX) (K (aV e r (.tup [])) d n) (bif bz ü (HP.ov b d).get n then K (aV e r (.tup [])) d n.succ else .no) f:RX)=bif bz f (HP.ov b d).get n then K (aV e r (.tup [])) d (cN f n)else .no:=by cases f <;> rfl
 generalize PM.get .unk e p=v;obtain _|q|l:=v
 ·show RX.no=_;cases bz f (HP.ov b d).get n <;> rfl
 ·obtain c|l:=q
  ·cases c with
   |bl t=>
    simp[mP];cases w <;> cases t <;> first|exact j K|exact g
   |_=>show RX.no=_;cases bz f (HP.ov b d).get n <;> rfl
  ·show RX.no=_;cases bz f (HP.ov b d).get n <;> rfl
 ·exact g
def abF (p:Pos)(w g:Bool)(r:Option Pos)(f:OpC):gdB p w g r (.mk f) = .mk (cGd (λe=>PM.get .unk e p) w g (λv e=>aV e r v) f):=by unfold gdB;rw[PB,Ae]
def WU (args:List Src)(r:Option Pos)(ck:Callk)(b:HP)(e:Env)(d:DM)(n:Pos)(k:Ko):CQ (.call args r ö) ck b e d n k=match cI (HP.ov b d).get (aT e args)with
  |some (t,f)=>match ck.call b t f d n with
   |.ok out j g=>k (aV e r out) j g
   |.no=>.no
  |none=>.no:=by
 simp[CQ,aQ,gd];cases cI (HP.ov b d).get (aT e args)with
 |none=>rfl
 |some p =>obtain⟨t,f⟩:=p;simp only;cases ck.call b t f d n <;> rfl
def ac5 (args:List Src)(r:Option Pos):cC1 args r = .mk (CQ (.call args r ö)):=by
 unfold cC1;split
 ·congr 1
 next x l=>
  rw[wH];show mL (ac4 (λe=>bm e x)) l r=_;rw[aaV];congr 1;funext ck b e d n K;rw[WU];simp[ac4,aT];generalize bm e x=v;obtain _|p|m:=v
  ·rfl
  ·obtain c|m:=p
   ·cases c with
    |fnc f =>simp[asC,cI,RCx];cases ck.call b (.fn f) (aT e l) d n <;> rfl
    |clo q=>
     simp[asC,ac3,RCx];cases cI (HP.ov b d).get (.pv (.one (.clo q))::aT e l)with
     |none=>rfl
     |some p =>obtain⟨t,g⟩:=p;simp only;cases ck.call b t g d n <;> rfl
    |_=>rfl
   ·rfl
  ·rfl
def RV (args:List Src)(r:Option Pos)(p:Pos)(w:Bool):cGd (λe=>PM.get .unk e p) w ß (λv e=>aV e r v) (CQ (.call args r ö))=CQ (.call args r (ä (p,w))):=by
 funext ck b e d n K;have f:CQ (.call args r (ä (p,w))) ck b e d n K=match (match e.get .unk p with
   |.pv (.one (.bl b))=>ä (match w with|true=>b|false=>!b)
   |.tup _=>ä ß
   |_=>ö)with
   |some ü=>CQ (.call args r ö) ck b e d n K
   |some ß=>K (aV e r (.tup [])) d n
   |none=>.no:=by
  simp[CQ,aQ];show(match (match gd e (ä (p,w))with|some ü=>_|some ß=>_|none=>_:RS)with|.ok e d n=>K e d n|.no=>RX.no)=match gd e (ä (p,w))with|some ü=>_|some ß=>_|none=>_
  cases gd e (ä (p,w))with
  |none=>rfl
  |some t=>cases t <;> rfl
 rw[f];simp[cGd];generalize PM.get .unk e p=v;obtain _|q|l:=v
 ·rfl
 ·obtain c|l:=q
  ·cases c with
   |bl t =>simp[mP];cases w <;> cases t <;> rfl
   |_=>rfl
  ·rfl
 ·rfl
def acL (o:OP):cO1 o = .mk (CQ o):=by
 unfold cO1;split
 next k args r g al=>
  rw[Up];split
  ·exact acQ k args r al
  next p w=>rw[acQ,abF,aiC]
 next args r g=>
  split
  ·exact ac5 args r
  next p w=>rw[ac5,abF,RV]
 ·rfl
def N2 (ck:Callk)(b:HP)(o:OP)(l:List OP)(e:Env)(d:DM)(n:Pos):aQ ck b (o::l) e d n=match aQ ck b [o] e d n with
  |.ok e d n=>aQ ck b l e d n
  |.no=>.no:=by
 cases o with
 |op o j=>
  simp[aQ];cases bz j (HP.ov b d).get n with
  |false=>rfl
  |true =>simp;cases j7 e (HP.ov b d).get n o <;> rfl
 |call args r g=>
  simp[aQ];cases gd e g with
  |none=>rfl
  |some t=>
   cases t with
   |false=>rfl
   |true=>
    simp only;cases cI (HP.ov b d).get (aT e args)with
    |none=>rfl
    |some p =>obtain⟨t,f⟩:=p;simp only;cases ck.call b t f d n <;> rfl
 |nxt x r =>simp[aQ];cases FI (HP.ov b d).get (bm e x) <;> rfl
 |bad=>rfl
def acK:∀l:List OP,cOs l = .mk (λck b e d n k=>match aQ ck b l e d n with|.ok e d n=>k e d n|.no=>.no)
 |[]=>rfl
 |o::l=>by show BO.rec (motive:=λ_=>BO) (λf=>BO.rec (motive:=λ_=>BO) (λg=>.mk λck b e d n k=>f ck b e d n λe d n=>g ck b e d n k) (cOs l)) (cO1 o)=_;rw[acL,acK l];show BO.mk _=_;congr 1;funext ck b e d n k;rw[N2];simp[CQ];cases aQ ck b [o] e d n <;> rfl
def NoW:Q→Prop
 |.fail=>True
 |.ret _ wr=>wr=ö
 |.rd _ f=>∀o,NoW (f o)
def NoW.run {h:Pos→EO}:∀{q:Q},NoW q→∀{out:TV} {wr:Option (Pos×EO)},q.run h=ä (out,wr)→wr=ö
 |.fail,_,_,_,g=>by cases g
 |.ret _ _,j,out,wr,g=>by cases g;exact j
 |.rd k f,j,out,wr,g=>NoW.run (j (h k)) g
def dP (k:IntKind)(n:Int):NoW (gc k n):=by simp[gc,xJ];rfl
def pG (c:CV):NoW (ri c):=rfl
def zo (c:Bool):NoW (th c):=rfl
def OQ (p:Option PV):NoW (WR p ö):=by unfold WR;split <;> trivial
def fS {c:Bool}{p q:Q}(h:NoW p)(k:NoW q):NoW (cond c p q):=by cases c <;> assumption
def aaM (op:BinOp)(k:IntKind)(a b:Int):NoW (Ha op k a b):=by
 unfold Ha;split <;> first|exact dP _ _|exact zo _|exact fS trivial (dP _ _)|trivial
def UD (op:BinOp)(k:IntKind)(a b:Int):NoW (shI op k a b):=by
 unfold shI;refine fS trivial ?_;split <;> first|exact dP _ _|trivial
def aaL (op:BinOp)(a b:List Nat):NoW (ac7 op a b):=by
 unfold ac7;split <;> first|exact zo _|exact fS (pG _) trivial|trivial
def OR (ok:Bool)(z:PV)(r:Option PV):NoW (vH ok z r):=by unfold vH;split <;> split <;> rfl
def aan:∀(k:K),LF k=ü→∀(g:List TV) (f:Pos),NoW (dR k g f):=by
 intro k j g f;cases k <;> first|(cases j;done)|skip
 all_goals simp[dR]
 case mov=>unfold Tq;split <;> trivial
 case pick=>unfold Vg;split <;> first|trivial|(split <;> trivial)
 case build=>unfold GM;split <;> trivial
 case load=>
  unfold GL;split
  ·split
   ·intro o;simp only;split
    ·exact OQ _
    ·trivial
   ·trivial
  ·trivial
 case nilchk=>unfold Aa;split <;> first|trivial|(split <;> trivial)
 case bin op=>
  unfold sC;split
  ·split
   ·split
    ·split
     ·exact UD _ _ _ _
     ·exact UD _ _ _ _
     ·exact fS (aaM _ _ _ _) trivial
    ·exact aaL _ _ _
    ·trivial
   ·trivial
  ·trivial
 case eql=>unfold ab6;split <;> first|trivial|(split <;> first|trivial|exact zo _)
 case un=>unfold eUn;split <;> first|trivial|(split <;> first|trivial|exact zo _|exact dP _ _)
 case cint=>unfold P9;split <;> first|trivial|(split <;> first|trivial|exact dP _ _)
 case subs=>
  unfold P4;split
  ·unfold ac6;split
   ·split
    ·split
     ·split
      ·exact fS (pG _) trivial
      ·trivial
     ·trivial
    ·trivial
   ·trivial
  ·trivial
 case fadr=>unfold P8;split <;> first|trivial|(split <;> trivial)
 case fld=>unfold ab5;split <;> first|trivial|(split <;> first|trivial|exact fS (OQ _) trivial)
 case idxl=>unfold JB;split <;> first|trivial|(split <;> first|trivial|exact fS (pG _) trivial)
 case idxa=>unfold P7;split <;> first|trivial|(split <;> first|trivial|exact fS (pG _) trivial)
 case idxs=>unfold JA;split <;> first|trivial|(split <;> first|trivial|(split <;> first|trivial|exact dP _ _))
 case look=>
  unfold P5;split
  ·split
   ·refine fS ?_ trivial;split
    ·exact OR _ _ _
    ·intro o;simp only;split
     ·split
      ·exact OR _ _ _
      ·trivial
     ·trivial
    ·trivial
   ·trivial
  ·trivial
 case ext=>unfold Yg;split <;> first|trivial|(split <;> first|trivial|(split <;> trivial))
 case lens=>unfold Jy;split <;> first|trivial|(split <;> first|trivial|exact dP _ _)
 case lenl=>unfold Jz;split <;> first|trivial|(split <;> first|trivial|exact dP _ _)
 case lenm=>
  unfold P6;split
  ·split
   ·exact dP _ _
   ·intro o;simp only;split
    ·exact dP _ _
    ·trivial
   ·trivial
  ·trivial
 case mx=>unfold eMx;split <;> first|trivial|(split <;> first|trivial|exact fS (dP _ _) trivial)
 case usd=>unfold ab3;split <;> first|trivial|(split <;> first|trivial|exact pG _|exact fS (pG _) trivial)
 case ibs=>unfold ab4;split <;> first|trivial|(split <;> first|trivial|exact fS (dP _ _) trivial)
variable{o:FO}{al:Bool}
def AP (j:LF o.k=ü){e:Env}{h:Pos→EO}{f:Pos}{out:TV}{wr:Option (Pos×EO)}(g:j7 e h f o=ä (out,wr)):wr=none:=by
 unfold j7 at g;split at g
 ·split at g
  ·exact(aan _ j _ _).run g
  ·simp at g;exact g.2.symm
 ·cases g
def wz (o:OP):DOp:=λck b l e d r n k=>match o with
 |.op o al=>match j7 e (HP.ov b (ez al d r)).get r o with
  |some (out,wr)=>bif okW (HP.ov b (ez al d r)).get wr then k (.op (eW wr) (trF e (HP.ov b (ez al d r)).get r o) (oJ al r wr) (qF e r o) out) (aV e o.dst out) (sX d wr) (cN al r) n else .no
  |none=>.no
 |.call args f g=>match gd e g with
  |some ü=>match cI (HP.ov b d).get (aT e args)with
   |some (t,vs)=>match ck.call (.ov b d) t vs .leaf n with
    |.ok out j p=>bif su j l then k (.call (.ov b d) j) (aV e f out) (l6 j d) r p else .no
    |.no=>.no
   |none=>.no
  |some ß=>k (.op ö [] ü .fail .unk) (aV e f (.tup [])) d r n
  |none=>.no
 |_=>.no
def Bf {o:FO}{al:Bool}{b:HP}{e:Env}{d:DM}{r:Pos}{out:TV}{wr:Option (Pos×EO)}(h:j7 e (HP.ov b (ez al d r)).get r o=ä (out,wr)):abo o al b e d r = .op (eW wr) (trF e (HP.ov b (ez al d r)).get r o) (oJ al r wr) (qF e r o) out:=by unfold abo;rw[h]
def yW (h:IE (.op o al)=ü):al=ß∧LF o.k=true:=by
 cases al with
 |true=>cases h
 |false=>exact⟨rfl,h⟩
def ack (h:IE (.op o al)=ü):acl o (bZ o al)=wz (.op o al):=by
 obtain⟨rfl,j⟩:=yW h;funext ck b l e d r n k;simp[acl,bZ,wz,bz,ez];have g:=@Bf o ß b e d r;simp[ez]at g;cases f:j7 e (HP.ov b d).get r o with
 |none=>rfl
 |some p =>obtain⟨out,wr⟩:=p;have:=AP j f;subst this;rw[g f];rfl
def ahI (b:HP)(d:DM)(wr:Option (Pos×EO))(k:RX):okK b d wr k=bif okW (HP.ov b d).get wr then k else .no:=by
 cases wr with
 |none=>rfl
 |some p =>show bC (Cq (hG (.ov b d) p.1)) .no k=_;rw[zS,mP];simp only[okW];cases Cq ((HP.ov b d).get p.1) <;> rfl
def aiq (al:Bool)(d:DM)(r:Pos)(k:DM→RX):clK al d r k=k (ez al d r):=by
 cases al with
 |false=>rfl
 |true=>exact oM _ _ _ _
def ahj (al:Bool)(r:Pos)(k:Pos→RX):sPi al r k=k (cN al r):=by
 cases al with
 |false=>rfl
 |true=>exact xy _ _
def afD (k:K)(args:List Src)(f:Option Pos)(al:Bool):aik ⟨k,args,f,ö⟩ al (dR k) (λe=>aT e args) (λv e=>aV e f v)=wz (.op ⟨k,args,f,ö⟩ al):=by
 funext ck b l e d r n K;simp[aik,wz,aiq,E4,ahI,AM,ahj,bg];have g:=@Bf ⟨k,args,f,ö⟩ al b e d r;simp[bg]at g;cases j:(dR k (aT e args) r).run (HP.ov b (ez al d r)).get with
 |none=>rfl
 |some p =>obtain⟨out,wr⟩:=p;simp only;rw[g j]
def aci (o:FO)(al:Bool):acj o al=wz (.op o al):=by
 funext ck b g e d r n K;simp[acj,wz];cases f:j7 e (HP.ov b (ez al d r)).get r o with
 |none=>rfl
 |some p =>obtain⟨out,wr⟩:=p;simp only;rw[Bf f]
def JH (ck:Callk)(b:HP)(j:List Pos)(t:Tgt)(g:List TV)(d:DM)(n:Pos)(k:Inf→TV→DM→Pos→RX):L7 ck b j t g d n k=match ck.call (.ov b d) t g .leaf n with
  |.ok out f l=>bif su f j then k (.call (.ov b d) f) out (l6 f d) l else .no
  |.no=>.no:=by
 unfold L7 RCx;cases ck.call (.ov b d) t g .leaf n with
 |no=>rfl
 |ok out f l=>exact mP _ _ _
def acp (args:List Src)(g:Option Pos):dC1 args g = .mk (wz (.call args g ö)):=by
 unfold dC1;split
 ·rfl
 next x l=>
  rw[wH,Km,Ae];show BD1.mk _=_;congr 1;funext ck b C e d r n K;simp[agQ,wz,gd,aT];generalize bm e x=v;obtain _|p|m:=v
  ·rfl
  ·obtain c|m:=p
   ·cases c with
    |fnc f=>simp[asC,cI];exact JH _ _ _ _ _ _ _ _
    |clo q=>
     simp[asC,aco];cases cI (HP.ov b d).get (.pv (.one (.clo q))::aT e l)with
     |none=>rfl
     |some p =>obtain⟨t,j⟩:=p;exact JH _ _ _ _ _ _ _ _
    |_=>rfl
   ·rfl
  ·rfl
def ail (args:List Src)(f:Option Pos)(p:Pos)(w:Bool):dGd (λe=>PM.get .unk e p) w (λv e=>aV e f v) (wz (.call args f ö))=wz (.call args f (ä (p,w))):=by
 funext ck b g e d r n K;have j:wz (.call args f (ä (p,w))) ck b g e d r n K=match (match e.get .unk p with
   |.pv (.one (.bl b))=>ä (match w with|true=>b|false=>!b)
   |.tup _=>ä ß
   |_=>ö)with
   |some ü=>wz (.call args f ö) ck b g e d r n K
   |some ß=>K (.op ö [] ü .fail .unk) (aV e f (.tup [])) d r n
   |none=>.no:=rfl
 rw[j];simp[dGd];generalize PM.get .unk e p=v;obtain _|q|l:=v
 ·rfl
 ·obtain c|l:=q
  ·cases c with
   |bl t =>simp[mP];cases w <;> cases t <;> rfl
   |_=>rfl
  ·rfl
 ·rfl
def aij (o:OP):dO1 o = .mk (wz o):=by
 cases o with
 |op o al=>
  obtain⟨k,args,f,g⟩:=o;simp[dO1];split
  next hp=>rw[acL,Up];show BD1.mk _=_;rw[ack hp]
  ·split
   ·rw[ab8,Km,Ae];show BD1.mk _=_;rw[afD]
   ·rw[aci]
 |call args f g=>
  simp[dO1];split
  ·exact acp args f
  next p w=>rw[acp,PB,Ae];show BD1.mk _=_;rw[ail]
 |nxt x f=>rfl
 |bad=>rfl
def WL (ck:Callk)(b:HP)(f:List Pos)(o:OP)(l:List OP)(e:Env)(d:DM)(r n:Pos)(k:List Inf→Env→DM→Pos→RX) :
  (match mS ck b f (o::l) e d r n with|.ok l e d n=>k l e d n|.no=>RX.no)=wz o ck b f e d r n λi e d r n=>match mS ck b f l e d r n with|.ok l e d n=>k (i::l) e d n|.no=>RX.no:=by
 have j:∀(i:Inf) (t:RT'),(match Ai i t with|.ok l e d n=>k l e d n|.no=>RX.no)=match t with|.ok l e d n=>k (i::l) e d n|.no=>RX.no:=λi t=>by cases t <;> rfl
 cases o with
 |op o al=>
  simp[mS,wz];cases j7 e (HP.ov b (ez al d r)).get r o with
  |none=>rfl
  |some p=>
   obtain⟨out,wr⟩:=p;simp only;cases okW (HP.ov b (ez al d r)).get wr with
   |false=>rfl
   |true=>simp;exact j _ _
 |call args J g=>
  simp[mS,wz];cases gd e g with
  |none=>rfl
  |some t=>
   cases t with
   |false=>exact j _ _
   |true=>
    simp only;cases cI (HP.ov b d).get (aT e args)with
    |none=>rfl
    |some p=>
     obtain⟨t,C⟩:=p;simp only;cases ck.call (.ov b d) t C .leaf n with
     |no=>rfl
     |ok out P R=>
      simp only;cases su P f with
      |false=>rfl
      |true=>simp;exact j _ _
 |_=>rfl
def acm:∀l:List OP,dOs l = .mk (λck b j e d r n k=>match mS ck b j l e d r n with|.ok l e d n=>k l e d n|.no=>.no)
 |[]=>rfl
 |o::l=>by show BD1.rec (motive:=λ_=>BD) (λf=>BD.rec (motive:=λ_=>BD) (λg=>.mk λck b j e d r n k=>f ck b j e d r n λi e d r n=>g ck b j e d r n λl e d n=>k (i::l) e d n) (dOs l)) (dO1 o)=_;rw[aij,acm l];show BD.mk _=_;congr 1;funext ck b j e d r n k;exact(WL ck b j o l e d r n k).symm
def pC (b:HP):∀(f:List OP) (d:DM) (n:Pos) (k:List Pos→DM→Pos→RX),aae (alN f) b d n k=match sq b f d n with
  |some (l,j,g)=>k l j g
  |none=>.no
 |[],_,_,_=>rfl
 |.op o ü::r,d,n,k=>by
  show frK b d n (dSK n .cz d λJ=>sPK n λC=>aae (alN r) b J C λl j g=>k (n::l) j g)=_;rw[Gv,oM,xy,pC b r];simp[sq,bz];cases(HP.ov b d).get n with
  |none=>
   simp;cases sq b r (fA d n .cz) n.succ with
   |none=>rfl
   |some p=>rfl
  |_=>rfl
 |.op o ß::r,d,n,k=>pC b r d n k
 |.call _ _ _::r,d,n,k=>pC b r d n k
 |.nxt _ _::r,d,n,k=>pC b r d n k
 |.bad::r,d,n,k=>pC b r d n k
def Us (l:List Inf)(k:RX):∀ps:List (Nat×Nat),aho l ps k=bif dH l ps then k else .no
 |[]=>rfl
 |p::r=>by show bC (fy l p) (aho l r k) .no=_;rw[Us l k r,mP];simp[dH];cases fy l p <;> rfl
def It {ck:Callk}{b:HP}{rs:List Pos}:∀(p:List OP) {e:Env} {d:DM} {r n:Pos} {l:List Inf} {T:Env} {U:DM} {R:Pos},mS ck b rs p e d r n = .ok l T U R→∀i,E7 p i=ü→∃tr fr q out,nth l i=ä (.op ö tr fr q out)
 |[],e,d,r,n,l,T,U,R,h,i,hi=>by cases i <;> cases hi
 |o::p,e,d,r,n,l,T,U,R,h,i,hi=>by
  have key:∃j e1 d1 r1 n1 f,l=j::f∧mS ck b rs p e1 d1 r1 n1 = .ok f T U R∧(IE o=ü→∃tr fr q out,j = .op ö tr fr q out):=by
   have cons:∀(j:Inf) (t:RT'),Ai j t = .ok l T U R→∃f,l=j::f∧t = .ok f T U R:=λj t ht=>by
    cases t with
    |no=>cases ht
    |ok f e1 d1 n1 =>simp only[Ai]at ht;injection ht with P C h3 h4;subst P;subst C;subst h3;subst h4;exact⟨f,rfl,rfl⟩
   cases o with
   |op o al=>
    simp[mS]at h;split at h
    ·rename_i out wr hs;rw[r?]at h;split at h
     ·obtain⟨f,P,C⟩:=cons _ _ h;refine⟨_,_,_,_,_,f,P,C,λJ=>?_⟩;obtain⟨rfl,J⟩:=yW J;have:=AP J hs;subst this;exact⟨_,_,_,_,rfl⟩
     ·cases h
    ·cases h
   |call args dst g=>
    simp[mS]at h;split at h
    ·split at h
     ·split at h
      ·rw[r?]at h;split at h
       ·obtain⟨f,P,C⟩:=cons _ _ h;exact⟨_,_,_,_,_,f,P,C,λJ=>by cases J⟩
       ·cases h
      ·cases h
     ·cases h
    ·obtain⟨f,P,C⟩:=cons _ _ h;exact⟨_,_,_,_,_,f,P,C,λJ=>by cases J⟩
    ·cases h
   |nxt x dst=>cases h
   |bad=>cases h
  obtain⟨j,e1,d1,r1,n1,f,rfl,C,h3⟩:=key;cases i with
  |zero =>obtain⟨tr,fr,q,out,rfl⟩:=h3 hi;exact⟨tr,fr,q,out,rfl⟩
  |succ i=>exact It p C i hi
def Td {f:List OP}{l:List Inf}(h:∀i,E7 f i=ü→∃g j q out,nth l i=ä (.op ö g j q out)):∀ps:List (Nat×Nat),dH l (Te f ps)=dH l ps
 |[]=>rfl
 |p::r=>by
  simp[Te];split
  next h1 h2=>
   rw[Td h r];obtain⟨R,f1,q1,U,J⟩:=h _ h1;obtain⟨P,f2,q2,T,C⟩:=h _ h2;have:fy l p=true:=by
    simp only[fy,J,C,dN,BH,Ms];rfl
   simp[dH,this]
  ·simp[dH,Td h r]
def QL {ck:Callk}{b:HP}:∀(f:List OP),TK f=ü→∀(e:Env) (d:DM) (n m:Pos),(∃l j,mS ck b [] f e d n m = .ok l j d m∧aQ ck b f e d n = .ok j d n∧∀i,i<f.length→∃P U q out,nth l i=ä (.op ö P U q out))∨(mS ck b [] f e d n m = .no∧aQ ck b f e d n = .no)
 |[],_,e,d,n,m=>.inl ⟨[],e,rfl,rfl,λi r=>by cases r⟩
 |o::f,h,e,d,n,m=>by
  simp[TK]at h;split at h
  next g=>
   cases o with
   |op o al=>
    obtain⟨rfl,g⟩:=yW g;simp only[mS,aQ,bz,U',ez];cases R:j7 e (HP.ov b d).get n o with
    |none=>exact .inr ⟨rfl,rfl⟩
    |some p=>
     obtain⟨out,wr⟩:=p;have:=AP g R;subst this;simp only[okW,U',sX,cN];rcases QL f h (aV e o.dst out) d n m with⟨l,j,J,C,T⟩|⟨J,C⟩
     ·refine .inl ⟨_,j,by rw[J];rfl,C,λi r=>?_⟩;cases i with
      |zero=>exact⟨_,_,_,_,rfl⟩
      |succ i=>exact T i (by simpa using r)
     ·exact .inr ⟨by rw[J];rfl,C⟩
   |_=>cases g
  ·cases h
def JX (b:HP):∀(f:List OP),TK f=ü→∀(d:DM) (n:Pos),sq b f d n=ä ([],d,n)
 |[],_,_,_=>rfl
 |o::f,h,d,n=>by
  simp[TK]at h;split at h
  next g=>
   cases o with
   |op o al =>obtain⟨rfl,g⟩:=yW g;exact JX b f h d n
   |_=>cases g
  ·cases h
def Uo (g:List OP)(f:OpC)(j:cOs g = .mk f)(l:Nat)(ck:Callk)(b:HP)(e:Env)(d:DM)(n:Pos)(k:Kx):Oh f ck l b e d n k=bX (exec ck l (.region g) b e d n) k:=by rw[acK]at j;cases j;simp[Oh,exec];cases aQ ck b g e d n <;> rfl
def afE (f:List OP)(ps:List (Nat×Nat))(g:aiN)(j:dOs f = .mk g)(r:Nat)(ck:Callk)(b:HP)(e:Env)(d:DM)(n:Pos)(k:Kx):drF (alN f) (Te f ps) g ck r b e d n k=bX (exec ck r (.drawn f ps) b e d n) k:=by
 rw[acm]at j;cases j;simp[drF,pC,exec,Us];cases sq b f d n with
 |none=>rfl
 |some p=>
  obtain⟨C,R,J⟩:=p;simp only;cases P:mS ck b C f e R n J with
  |no=>rfl
  |ok l U d' T =>simp only;rw[Td (It f P)];cases dH l ps <;> rfl
def IJ {l:List Inf}{m:Nat}(h:∀i,i<m→∃f g q out,nth l i=ä (.op ö f g q out)):∀ps:List (Nat×Nat),aeb m ps=ü→dH l ps=ü
 |[],_=>rfl
 |p::r,hp=>by
  simp only[aeb,C?,θ]at hp;obtain⟨P,f1,q1,T,C⟩:=h _ (cB.1 hp.1.1);obtain⟨J,U,q2,R,j⟩:=h _ (cB.1 hp.1.2);have:fy l p=true:=by simp only[fy,C,j,dN,BH,Ms];rfl
  simp[dH,this];exact IJ h r hp.2
def afF (g:List OP)(ps:List (Nat×Nat))(r:TK g=ü)(J:aeb g.length ps=ü)(f:OpC)(P:cOs g = .mk f)(C:Nat)(ck:Callk)(b:HP)(e:Env)(d:DM)(n:Pos)(k:Kx):Oh f ck C b e d n k=bX (exec ck C (.drawn g ps) b e d n) k:=by
 rw[Uo g f P];simp[exec,JX b g r];rcases QL (ck:=ck) (b:=b) g r e d n n with⟨l,T,p,j,R⟩|⟨p,j⟩
 ·rw[p,j];simp[IJ R ps J]
 ·rw[p,j]
def aiS (x:BO):∃f,x = .mk f:=by cases x;exact⟨_,rfl⟩
def ajs (x:BD):∃f,x = .mk f:=by cases x;exact⟨_,rfl⟩
def aim (j:List OP)(ps:List (Nat×Nat)):dFc j ps = .mk (λck l b e d n k=>bX (exec ck l (.drawn j ps) b e d n) k):=by
 unfold dFc;split
 next ha=>simp at ha;obtain⟨f,r⟩:=aiS (cOs j);rw[r];show BC.mk (Oh f)=_;congr 1;funext ck l b e d n k;exact afF j ps ha.1 ha.2 f r l ck b e d n k
 ·obtain⟨g,p⟩:=ajs (dOs j);rw[p];show BC.mk (drF (alN j) (Te j ps) g)=_;congr 1;funext ck l b e d n k;exact afE j ps g p l ck b e d n k
def O3 (f:Clo)(ck:Callk)(g:Nat)(b:HP)(r:Env→DM→Pos→RX)(j:∀e d n k,f ck g b e d n k=bX (r e d n) k)(k:Kx):∀(m:Nat) (e:Env) (d:DM) (n:Pos),
  (Nat.rec (motive:=λ_=>Env→DM→Pos→RX) (λ_ _ _=>.no) (λ_ p e d n=>f ck g b e d n λx e d n=>Ex.rec (motive:=λ_=>RX) (p e d n) (λid=>k (.exit id) e d n) (k .ret e d n) x) m:Env→DM→Pos→RX) e d n=bX (pQ r m e d n) k
 |0,_,_,_=>rfl
 |m+1,e,d,n=>by
  show f ck g b e d n _=_;rw[j];simp[pQ];cases r e d n with
  |no=>rfl
  |ok x C J l=>
   cases x with
   |normal=>exact O3 f ck g b r j k m C J l
   |exit id=>rfl
   |ret=>rfl
def GG:∀c:FC,fc c = .mk (λck g b e d n k=>bX (exec ck g c b e d n) k)
 |.skip=>rfl
 |.region j=>by obtain⟨f,C⟩:=aiS (cOs j);show BO.rec (motive:=λ_=>BC) (λf=>.mk (Oh f)) (cOs j)=_;rw[C];show BC.mk (Oh f)=_;congr 1;funext ck g b e d n k;exact Uo j f C g ck b e d n k
 |.drawn j ps=>aim j ps
 |.seq x y=>by
  show c2 ahi (fc x) (fc y)=_;rw[GG x,GG y];show BC.mk _=_;congr 1;funext ck g b e d n k;simp[ahi,exec];cases exec ck g x b e d n with
  |no=>rfl
  |ok r P R J=>cases r <;> rfl
 |.cond c x y=>by
  show BG.rec (motive:=λ_=>BC) (λc=>c2 (acs c) (fc x) (fc y)) (vB c)=_;rw[GG x,GG y,wH];show BC.mk _=_;congr 1;funext ck g b e d n k;simp[acs,exec,mP];generalize bm e c=v;obtain _|p|l:=v
  ·rfl
  ·obtain c|l:=p
   ·cases c with
    |bl t=>cases t <;> rfl
    |_=>rfl
   ·rfl
  ·rfl
 |.block id x=>by
  show c1 (TG id) (fc x)=_;rw[GG x];show BC.mk _=_;congr 1;funext ck g b e d n k;simp[TG,exec];cases exec ck g x b e d n with
  |no=>rfl
  |ok r P R J=>
   cases r with
   |normal=>rfl
   |ret=>rfl
   |exit i =>show bC (Nat.beq i id) _ _=_;rw[mP];simp only;cases Nat.beq i id <;> rfl
 |.loop x=>by show c1 agH (fc x)=_;rw[GG x];show BC.mk _=_;congr 1;funext ck g b e d n k;exact O3 (λck g b e d n k=>bX (exec ck g x b e d n) k) ck g b (exec ck g x b) (λ_ _ _ _=>rfl) k g e d n
 |.rloop _ _ _ _ _=>rfl
 |.rng _ _ _ _=>rfl
 |.exit _=>rfl
 |.ret=>rfl
 |.bad=>rfl
def aaH:∀(l:List TV) (e:Env) (p:Pos),ofA l e p=tB l p e
 |[],_,_=>rfl
 |a::l,e,p=>by show ofA l (BS.rec (motive:=λ_=>Env) (λs=>s a e) (sB p)) (sP p)=_;rw[aaH l,Ui,agw];rfl
def aji (r:RX):bX r (λx e d n=>.ok x e d n)=r:=by cases r <;> rfl
def SB (l:Tb)(p:ø→Option Fi)(g:Nat):∀r:Nat,mkR l p g r=mkT l p g r
 |0=>by funext C b t args d n;cases t <;> rfl
 |r+1=>by
  funext C b t args d n;cases t with
  |yld j=>rfl
  |fn f=>
   show RC.rec (motive:=λ_=>RC) (FJ.rec (motive:=λ_=>RC) .no (λc cz J=>Bool.rec (motive:=λ_=>RC) .no (ad6 b cz (c (TA (mkR l p g r) C) g b (ofA args .leaf .e) d n λx e d n=>.ok x e d n)) (Nat.ble (lnT args) J)) (fj p f)) (λv d n=>.ok v d n) (l f b args d n)=_;rw[SB l p g r];simp[mkT,aaZ,aaH];cases l f b args d n with
   |ok v d n=>rfl
   |no=>
    simp[Lc,fj];cases p f with
    |none=>rfl
    |some x =>simp only;rw[GG];simp[aji];cases Nat.ble args.length x.nt <;> rfl
