/- Closed runs, fast: code as closures (definitions). Closed runs, fast: operations as closures do what operations do. Closed runs, fast: regions, code and calls as closures do what they do. -/
import Derived.Test.YtdjhicbhegaenaaGreatDoorCloE
namespace Go.Proofs.YtdjhicbhegaenaaGreatDoor.Clo
open Go Go.RowKit

abbrev Kx := Ex → Env → DM → Pos → RX
abbrev Ko := Env → DM → Pos → RX
abbrev Clo := Callk → Nat → HP → Env → DM → Pos → Kx → RX
abbrev OpC := Callk → HP → Env → DM → Pos → Ko → RX
abbrev Gt := Env → TV
abbrev St' := TV → Env → Env
inductive BG | mk (g : Gt)
inductive BS | mk (s : St')
inductive BL | mk (g : Env → List TV)
inductive BE | mk (f : List TV → Pos → Q)
inductive BO | mk (f : OpC)
inductive BC | mk (f : Clo)
abbrev DOps := Callk → HP → List Pos → Env → DM → Pos → Pos → (List Inf → Env → DM → Pos → RX) → RX
abbrev DOp := Callk → HP → List Pos → Env → DM → Pos → Pos → (Inf → Env → DM → Pos → Pos → RX) → RX
inductive BD | mk (f : DOps)
inductive BD1 | mk (f : DOp)

noncomputable def lf (t : Env) : Env := PM.rec (motive := fun _ => Env) .leaf (fun l _ _ _ _ => l) t
noncomputable def rt (t : Env) : Env := PM.rec (motive := fun _ => Env) .leaf (fun _ _ r _ _ => r) t
noncomputable def vl (t : Env) : TV := PM.rec (motive := fun _ => TV) .unk (fun _ a _ _ _ => a) t
noncomputable def gB (p : Pos) : BG := Pos.rec (motive := fun _ => BG) (.mk vl) (fun _ ih => BG.rec (motive := fun _ => BG) (fun g => .mk fun t => g (lf t)) ih) (fun _ ih => BG.rec (motive := fun _ => BG) (fun g => .mk fun t => g (rt t)) ih) p
noncomputable def sB (p : Pos) : BS := Pos.rec (motive := fun _ => BS) (.mk fun x t => PM.rec (motive := fun _ => Env) (.node .leaf x .leaf) (fun l _ r _ _ => .node l x r) t)
  (fun _ ih => BS.rec (motive := fun _ => BS) (fun s => .mk fun x t => PM.rec (motive := fun _ => Env) (.node (s x .leaf) .unk .leaf) (fun l a r _ _ => .node (s x l) a r) t) ih)
  (fun _ ih => BS.rec (motive := fun _ => BS) (fun s => .mk fun x t => PM.rec (motive := fun _ => Env) (.node .leaf .unk (s x .leaf)) (fun l a r _ _ => .node l a (s x r)) t) ih) p
noncomputable def vB (s : Src) : BG := Src.rec (motive := fun _ => BG) (fun p => gB p) (fun v => .mk fun _ => v) s
noncomputable def dB (d : Option Pos) : BS := Option.rec (motive := fun _ => BS) (.mk fun _ e => e) (fun p => sB p) d
noncomputable def vsB (l : List Src) : BL := List.rec (motive := fun _ => BL) (.mk fun _ => []) (fun s _ ih => BG.rec (motive := fun _ => BL) (fun g => BL.rec (motive := fun _ => BL) (fun h => .mk fun e => g e :: h e) ih) (vB s)) l

noncomputable def dlf (t : DM) : DM := PM.rec (motive := fun _ => DM) .leaf (fun l _ _ _ _ => l) t
noncomputable def drt (t : DM) : DM := PM.rec (motive := fun _ => DM) .leaf (fun _ _ r _ _ => r) t
noncomputable def dvl (t : DM) : Option EO := PM.rec (motive := fun _ => Option EO) none (fun _ a _ _ _ => a) t
noncomputable def dG (k : Pos) : DM → Option EO := Pos.rec (motive := fun _ => DM → Option EO) dvl (fun _ ih t => ih (dlf t)) (fun _ ih t => ih (drt t)) k
/-- An object written; a next place: computed at once. -/
noncomputable def dSK (k : Pos) (o : EO) : DM → (DM → RX) → RX := Pos.rec (motive := fun _ => DM → (DM → RX) → RX) (fun t K => PM.rec (motive := fun _ => RX) (K (.node .leaf (some o) .leaf)) (fun l _ r _ _ => K (.node l (some o) r)) t)
  (fun _ ih t K => PM.rec (motive := fun _ => RX) (ih .leaf fun l => K (.node l none .leaf)) (fun l a r _ _ => ih l fun l => K (.node l a r)) t)
  (fun _ ih t K => PM.rec (motive := fun _ => RX) (ih .leaf fun r => K (.node .leaf none r)) (fun l a r _ _ => ih r fun r => K (.node l a r)) t) k
noncomputable def sPK (p : Pos) : (Pos → RX) → RX := Pos.rec (motive := fun _ => (Pos → RX) → RX) (fun K => K (.o .e)) (fun p _ K => K (.i p)) (fun _ ih K => ih fun q => K (.o q)) p
noncomputable def pN (p : Pos) : Nat := Pos.rec (motive := fun _ => Nat) 0 (fun _ ih => Nat.add (Nat.mul 2 ih) 1) (fun _ ih => Nat.add (Nat.mul 2 ih) 2) p
noncomputable def sP (p : Pos) : Pos := Pos.rec (motive := fun _ => Pos) (.o .e) (fun p _ => .i p) (fun _ ih => .o ih) p
noncomputable def hG (b : HP) : Pos → EO := HP.rec (motive := fun _ => Pos → EO) (fun _ => .none) (fun _ d ih k => Option.rec (motive := fun _ => EO) (ih k) (fun o => o) (dG k d)) (fun _ n ih k => Bool.rec (motive := fun _ => EO) .none (ih k) (Nat.blt (pN k) (pN n))) b

noncomputable def bX (r : RX) (k : Kx) : RX := RX.rec (motive := fun _ => RX) .no k r
noncomputable def bC (t : Bool) (a b : RX) : RX := Bool.rec (motive := fun _ => RX) b a t
noncomputable def frK (b : HP) (d : DM) (n : Pos) (k : RX) : RX := EO.rec (motive := fun _ => RX) k (fun _ _ _ _ _ _ => .no) (fun _ _ => .no) (fun _ _ _ _ => .no) (fun _ _ _ _ => .no) (fun _ _ => .no) (fun _ _ _ => .no) (fun _ _ => .no) .no .no .no .no (hG (.ov b d) n)
noncomputable def roK (o : EO) (k : Nat → PT Ch → Nat → Nat → RX) : RX := EO.rec (motive := fun _ => RX) .no (fun _ s el len gen _ => k s el len gen) (fun _ _ => .no) (fun _ _ _ _ => .no) (fun _ _ _ _ => .no) (fun _ _ => .no) (fun _ _ _ => .no) (fun _ _ => .no) .no .no .no .no o
noncomputable def asP (v : TV) (k : PV → RX) : RX := TV.rec (motive := fun _ => RX) .no k (fun _ => .no) v
noncomputable def asC (v : TV) (k : CV → RX) : RX := TV.rec (motive := fun _ => RX) .no (fun p => PV.rec (motive := fun _ => RX) k (fun _ => .no) p) (fun _ => .no) v
noncomputable def asB (v : TV) (k : Bool → RX) : RX := asC v fun c => CV.rec (motive := fun _ => RX) k (fun _ _ => .no) (fun _ => .no) .no (fun _ _ _ => .no) (fun _ => .no) .no (fun _ _ _ _ _ => .no) (fun _ => .no) .no (fun _ => .no) .no (fun _ => .no) (fun _ => .no) .no (fun _ => .no) c
noncomputable def asI (v : TV) (k : IntKind → Int → RX) (z : RX) : RX := asC v fun c => CV.rec (motive := fun _ => RX) (fun _ => z) k (fun _ => z) z (fun _ _ _ => z) (fun _ => z) z (fun _ _ _ _ _ => z) (fun _ => z) z (fun _ => z) z (fun _ => z) (fun _ => z) z (fun _ => z) c
noncomputable def asS (v : TV) (k : List Nat → RX) : RX := asC v fun c => CV.rec (motive := fun _ => RX) (fun _ => .no) (fun _ _ => .no) k .no (fun _ _ _ => .no) (fun _ => .no) .no (fun _ _ _ _ _ => .no) (fun _ => .no) .no (fun _ => .no) .no (fun _ => .no) (fun _ => .no) .no (fun _ => .no) c
noncomputable def asR (v : TV) (k : Pos → Nat → Nat → RX) : RX := asC v fun c => CV.rec (motive := fun _ => RX) (fun _ => .no) (fun _ _ => .no) (fun _ => .no) .no k (fun _ => .no) .no (fun _ _ _ _ _ => .no) (fun _ => .no) .no (fun _ => .no) .no (fun _ => .no) (fun _ => .no) .no (fun _ => .no) c
noncomputable def asL (v : TV) (k : Pos → Nat → Nat → Nat → RX) : RX := asC v fun c => CV.rec (motive := fun _ => RX) (fun _ => .no) (fun _ _ => .no) (fun _ => .no) .no (fun _ _ _ => .no) (fun _ => .no) .no (fun p g o n _ => k p g o n) (fun _ => .no) .no (fun _ => .no) .no (fun _ => .no) (fun _ => .no) .no (fun _ => .no) c
/-- A number, computed. -/
noncomputable def nI (n : Int) (k : Int → RX) : RX := Int.rec (motive := fun _ => RX) (fun m => Nat.rec (motive := fun _ => RX) (k (.ofNat 0)) (fun m _ => k (.ofNat (Nat.succ m))) m) (fun m => Nat.rec (motive := fun _ => RX) (k (.negSucc 0)) (fun m _ => k (.negSucc (Nat.succ m))) m) n
noncomputable def nN (n : Nat) (k : Nat → RX) : RX := Nat.rec (motive := fun _ => RX) (k 0) (fun m _ => k (Nat.succ m)) n
/-- Numbers that are not below zero go by fast roads. -/
noncomputable def i2 (a b : Int) (f : Nat → Nat → RX) (z : RX) : RX := Int.rec (motive := fun _ => RX) (fun a => Int.rec (motive := fun _ => RX) (fun b => f a b) (fun _ => z) b) (fun _ => z) a

def oI (k : IntKind) (n : Int) : TV := .pv (.one (.int k n))
def oB (b : Bool) : TV := .pv (.one (.bl b))
noncomputable def sWK (wr : Option (Pos × EO)) (d : DM) (k : DM → RX) : RX := Option.rec (motive := fun _ => RX) (k d) (fun p => dSK p.1 p.2 d k) wr
noncomputable def qK (b : HP) (d : DM) (q : Q) (k : TV → Option (Pos × EO) → RX) : RX := Q.rec (motive := fun _ => RX) .no k (fun p _ ih => ih (hG (.ov b d) p)) q

/-- What an operation is to do. -/
def oneX (o : FO) (al : Bool) : OpC := fun _ b e d n k => bif freeO al (HP.ov b d).get n then (match stepF e (HP.ov b d).get n o with
  | some (out, wr) => k (setD e o.dst out) (setW d wr) (succIf al n)
  | none => .no) else .no

noncomputable def cGen0 (f : List TV → Pos → Q) (vs : Env → List TV) (dst : St') : OpC := fun _ b e d n k => qK b d (f (vs e) n) fun out wr => sWK wr d fun d => k (dst out e) d n
noncomputable def cGen1 (f : List TV → Pos → Q) (vs : Env → List TV) (dst : St') : OpC := fun _ b e d n k => frK b d n (qK b d (f (vs e) n) fun out wr => sWK wr d fun d => sPK n fun n => k (dst out e) d n)
noncomputable def cMov (x : Gt) (dst : St') : OpC := fun _ _ e d n k => k (dst (x e) e) d n
noncomputable def cPick (c x y : Gt) (dst : St') : OpC := fun _ _ e d n k => asB (c e) fun t => bC t (k (dst (x e) e) d n) (k (dst (y e) e) d n)
noncomputable def cNot (x : Gt) (dst : St') : OpC := fun _ _ e d n k => asB (x e) fun t => bC t (k (dst (oB false) e) d n) (k (dst (oB true) e) d n)
noncomputable def cCmp (f : Int → Int → Bool) (fn : Nat → Nat → Bool) (op : BinOp) (x y : Gt) (dst : St') : OpC := fun _ b e d n k =>
  asI (x e) (fun ka a => asI (y e) (fun kb b' => bC (kq ka kb) (i2 a b' (fun a b' => bC (fn a b') (k (dst (oB true) e) d n) (k (dst (oB false) e) d n)) (bC (f a b') (k (dst (oB true) e) d n) (k (dst (oB false) e) d n))) .no) .no)
    (qK b d (eBin op [x e, y e] n) fun out wr => sWK wr d fun d => k (dst out e) d n)
noncomputable def is64 (k : IntKind) : Bool := IntKind.rec (motive := fun _ => Bool) false false false true false false false false k
noncomputable def cAdd (x y : Gt) (dst : St') : OpC := fun _ b e d n k =>
  asI (x e) (fun ka a => asI (y e) (fun kb b' => bC (kq ka kb) (i2 a b' (fun a' b'' => bC (is64 ka) (nN (Nat.add a' b'') fun s => bC (Nat.blt s 9223372036854775808) (k (dst (oI ka (.ofNat s)) e) d n) (nI (ka.wrap (a + b')) fun r => k (dst (oI ka r) e) d n)) (nI (ka.wrap (a + b')) fun r => k (dst (oI ka r) e) d n)) (nI (ka.wrap (a + b')) fun r => k (dst (oI ka r) e) d n)) .no) .no)
    (qK b d (eBin .add [x e, y e] n) fun out wr => sWK wr d fun d => k (dst out e) d n)
noncomputable def cSub (x y : Gt) (dst : St') : OpC := fun _ b e d n k =>
  asI (x e) (fun ka a => asI (y e) (fun kb b' => bC (kq ka kb) (i2 a b' (fun a' b'' => bC (Nat.ble b'' a') (bC (is64 ka) (bC (Nat.blt a' 9223372036854775808) (nN (Nat.sub a' b'') fun s => k (dst (oI ka (.ofNat s)) e) d n) (nI (ka.wrap (a - b')) fun r => k (dst (oI ka r) e) d n)) (nI (ka.wrap (a - b')) fun r => k (dst (oI ka r) e) d n)) (nI (ka.wrap (a - b')) fun r => k (dst (oI ka r) e) d n)) (nI (ka.wrap (a - b')) fun r => k (dst (oI ka r) e) d n)) .no) .no)
    (qK b d (eBin .sub [x e, y e] n) fun out wr => sWK wr d fun d => k (dst out e) d n)
noncomputable def nthL (l : List Nat) : Nat → (Nat → RX) → RX := List.rec (motive := fun _ => Nat → (Nat → RX) → RX) (fun _ _ => .no) (fun a _ ih i k => Nat.rec (motive := fun _ => RX) (k a) (fun i _ => ih i k) i) l
noncomputable def cIdxs (x y : Gt) (dst : St') : OpC := fun _ _ e d n k => asS (x e) fun s => asI (y e) (fun _ i => Int.rec (motive := fun _ => RX) (fun i => nthL s i fun c => nN c fun c => k (dst (oI .u8 (.ofNat c)) e) d n) (fun _ => .no) i) .no
noncomputable def lnN (l : List Nat) : Nat := List.rec (motive := fun _ => Nat) 0 (fun _ _ ih => Nat.add ih 1) l
noncomputable def lnC (l : List CV) : Nat := List.rec (motive := fun _ => Nat) 0 (fun _ _ ih => Nat.add ih 1) l
noncomputable def cLens (x : Gt) (dst : St') : OpC := fun _ _ e d n k => asS (x e) fun s => nN (lnN s) fun r => k (dst (oI .i64 (.ofNat r)) e) d n
noncomputable def cFadr (c : Nat) (x : Gt) (dst : St') : OpC := fun _ _ e d n k => asR (x e) fun p g o => nN (Nat.add o c) fun o => k (dst (.pv (.one (.ptr p g o))) e) d n
noncomputable def cIdxl (s : Nat) (x y : Gt) (dst : St') : OpC := fun _ _ e d n k => asL (x e) fun p g o len => asI (y e) (fun _ i => Int.rec (motive := fun _ => RX) (fun i => bC (Nat.blt i len) (nN (Nat.add o (Nat.mul i s)) fun o => k (dst (.pv (.one (.ptr p g o))) e) d n) .no) (fun _ => .no) i) .no
/-- An element of a row. -/
noncomputable def ptG (t : PT Ch) : Nat → Ch := PT.rec (motive := fun _ => Nat → Ch) (fun _ => dch) (fun _ a _ ihl ihr i => Nat.rec (motive := fun _ => Ch) a (fun i _ => Bool.rec (motive := fun _ => Ch) (ihr (Nat.div i 2)) (ihl (Nat.div i 2)) (Nat.beq (Nat.mod i 2) 0)) i) t
noncomputable def drC (l : List CV) : Nat → List CV := List.rec (motive := fun _ => Nat → List CV) (fun _ => []) (fun a l ih n => Nat.rec (motive := fun _ => List CV) (a :: l) (fun n _ => ih n) n) l
noncomputable def tkC (l : List CV) : Nat → List CV := List.rec (motive := fun _ => Nat → List CV) (fun _ => []) (fun a _ ih n => Nat.rec (motive := fun _ => List CV) [] (fun n _ => a :: ih n) n) l
noncomputable def hdC (l : List CV) (k : CV → RX) : RX := List.rec (motive := fun _ => RX) .no (fun c _ _ => k c) l
noncomputable def chK (c : Ch) (k : List CV → Nat → RX) : RX := Ch.rec (motive := fun _ => RX) k c
noncomputable def rdK (b : HP) (d : DM) (p : Pos) (g off m : Nat) (k : List CV → RX) : RX := roK (hG (.ov b d) p) fun s el len gen =>
  bC (Nat.ble g gen) (bC (Nat.blt (Nat.div off s) len) (chK (ptG el (Nat.div off s)) fun cs mm => bC (Nat.ble mm g) (bC (Nat.ble (Nat.add (Nat.mod off s) m) s) (k (drC cs (Nat.mod off s))) .no) .no) .no) .no
noncomputable def cLd1 (x : Gt) (dst : St') : OpC := fun _ b e d n k => asR (x e) fun p g o => rdK b d p g o 1 fun l => hdC l fun c => k (dst (.pv (.one c)) e) d n
noncomputable def cLdA (s : Nat) (x : Gt) (dst : St') : OpC := fun _ b e d n k => asR (x e) fun p g o => rdK b d p g o s fun l => k (dst (.pv (.agg (tkC l s))) e) d n
noncomputable def clP (p : PV) : List CV := PV.rec (motive := fun _ => List CV) (fun c => [c]) (fun l => l) p
noncomputable def apC (l m : List CV) : List CV := List.rec (motive := fun _ => List CV) m (fun a _ ih => a :: ih) l
noncomputable def spC (cs : List CV) (off : Nat) (new : List CV) : List CV := apC (tkC cs off) (apC new (drC cs (Nat.add off (lnC new))))
noncomputable def pgL (t : PT Ch) : PT Ch := PT.rec (motive := fun _ => PT Ch) .leaf (fun l _ _ _ _ => l) t
noncomputable def pgR (t : PT Ch) : PT Ch := PT.rec (motive := fun _ => PT Ch) .leaf (fun _ _ r _ _ => r) t
noncomputable def pgV (t : PT Ch) : Ch := PT.rec (motive := fun _ => Ch) dch (fun _ a _ _ _ => a) t
noncomputable def ptS (f : Nat) : PT Ch → Nat → Ch → PT Ch := Nat.rec (motive := fun _ => PT Ch → Nat → Ch → PT Ch) (fun t _ _ => t) (fun _ ih t i x => Nat.rec (motive := fun _ => PT Ch) (.node (pgL t) x (pgR t)) (fun i _ => Bool.rec (motive := fun _ => PT Ch) (.node (pgL t) (pgV t) (ih (pgR t) (Nat.div i 2) x)) (.node (ih (pgL t) (Nat.div i 2) x) (pgV t) (pgR t)) (Nat.beq (Nat.mod i 2) 0)) i) f
noncomputable def fzK (fz : Fz) (k : RX) : RX := Fz.rec (motive := fun _ => RX) k .no .no fz
noncomputable def roW (o : EO) (k : TypeId → Nat → PT Ch → Nat → Nat → Fz → RX) : RX := EO.rec (motive := fun _ => RX) .no k (fun _ _ => .no) (fun _ _ _ _ => .no) (fun _ _ _ _ => .no) (fun _ _ => .no) (fun _ _ _ => .no) (fun _ _ => .no) .no .no .no .no o
noncomputable def cStore (m : Nat) (x y : Gt) (dst : St') : OpC := fun _ b e d n k => asR (x e) fun p g off => asP (y e) fun v => bC (Nat.beq (lnC (clP v)) m) (roW (hG (.ov b d) p) fun t s el len gen fz =>
  bC (Nat.beq g gen) (bC (Nat.blt (Nat.div off s) len) (bC (Nat.ble (Nat.add (Nat.mod off s) m) s) (fzK fz (chK (ptG el (Nat.div off s)) fun cs _ => dSK p (.row t s (ptS 32 el (Nat.div off s) ⟨spC cs (Nat.mod off s) (clP v), gen⟩) len gen fz) d fun d => k (dst .unk e) d n)) .no) .no) .no) .no
noncomputable def cAlloc (t : TypeId) (zs : List CV) (dst : St') : OpC := fun _ b e d n k => frK b d n (dSK n (.row t zs.length (.node .leaf ⟨zs, 0⟩ .leaf) 1 0 .no) d fun d => sPK n fun n' => k (dst (.pv (.one (.ptr n 0 0))) e) d n')
noncomputable def cBox (t : TypeId) (s : Nat) (x : Gt) (dst : St') : OpC := fun _ b e d n k => frK b d n (asP (x e) fun p => bC (Nat.beq (lnC (clP p)) s) (dSK n (.row t s (.node .leaf ⟨clP p, 0⟩ .leaf) 1 0 .no) d fun d => sPK n fun n' => k (dst (.pv (.one (.ptr n 0 0))) e) d n') .no)
noncomputable def cLenl (x : Gt) (dst : St') : OpC := fun _ _ e d n k => asC (x e) fun c => CV.rec (motive := fun _ => RX) (fun _ => .no) (fun _ _ => .no) (fun _ => .no) .no (fun _ _ _ => .no) (fun _ => .no) (k (dst (oI .i64 (.ofNat 0)) e) d n) (fun _ _ _ m _ => nN m fun m => k (dst (oI .i64 (.ofNat m)) e) d n) (fun _ => k (dst (oI .i64 (.ofNat 0)) e) d n) .no (fun _ => .no) .no (fun _ => .no) (fun _ => .no) .no (fun _ => .no) c
noncomputable def cNil (x : Gt) (dst : St') : OpC := fun _ _ e d n k => asC (x e) fun c => CV.rec (motive := fun _ => RX) (fun _ => .no) (fun _ _ => .no) (fun _ => .no) .no (fun p g o => k (dst (.pv (.one (.ptr p g o))) e) d n) (fun g => k (dst (.pv (.one (.glob g))) e) d n) .no (fun _ _ _ _ _ => .no) (fun _ => .no) .no (fun _ => .no) .no (fun f => k (dst (.pv (.one (.fnc f))) e) d n) (fun _ => .no) .no (fun i => k (dst (.pv (.one (.ifc i))) e) d n) c
noncomputable def tuK (v : TV) (k : List PV → RX) : RX := TV.rec (motive := fun _ => RX) .no (fun _ => .no) k v
noncomputable def nthP (l : List PV) : Nat → (PV → RX) → RX := List.rec (motive := fun _ => Nat → (PV → RX) → RX) (fun _ _ => .no) (fun a _ ih i k => Nat.rec (motive := fun _ => RX) (k a) (fun i _ => ih i k) i) l
noncomputable def cExtr (i : Nat) (x : Gt) (dst : St') : OpC := fun _ _ e d n k => tuK (x e) fun l => nthP l i fun p => k (dst (.pv p) e) d n
noncomputable def RCx (r : RC) (k : TV → DM → Pos → RX) : RX := RC.rec (motive := fun _ => RX) .no k r
noncomputable def cCallX (ck : Callk) (b : HP) (vs : List TV) (d : DM) (n : Pos) (k : TV → DM → Pos → RX) : RX := match enters (HP.ov b d).get vs with
  | some (t, vs) => RCx (ck.call b t vs d n) k
  | none => .no
noncomputable def cCall (x : Gt) (r : Env → List TV) (dst : St') : OpC := fun ck b e d n k => asC (x e) fun c => CV.rec (motive := fun _ => RX) (fun _ => .no) (fun _ _ => .no) (fun _ => .no) .no (fun _ _ _ => .no) (fun _ => .no) .no (fun _ _ _ _ _ => .no) (fun _ => .no) .no (fun _ => .no) .no (fun f => RCx (ck.call b (.fn f) (r e) d n) fun v d n => k (dst v e) d n) (fun p => cCallX ck b (.pv (.one (.clo p)) :: r e) d n fun v d n => k (dst v e) d n) .no (fun _ => .no) c
noncomputable def cGd (g : Gt) (w : Bool) (al : Bool) (dst : St') (f : OpC) : OpC := fun ck b e d n k => TV.rec (motive := fun _ => RX) .no (fun q => PV.rec (motive := fun _ => RX) (fun c => CV.rec (motive := fun _ => RX) (fun t => bC (Bool.rec (motive := fun _ => Bool) (Bool.rec (motive := fun _ => Bool) true false t) t w) (f ck b e d n k) (Bool.rec (motive := fun _ => RX) (k (dst (.tup []) e) d n) (frK b d n (sPK n fun n => k (dst (.tup []) e) d n)) al)) (fun _ _ => .no) (fun _ => .no) .no (fun _ _ _ => .no) (fun _ => .no) .no (fun _ _ _ _ _ => .no) (fun _ => .no) .no (fun _ => .no) .no (fun _ => .no) (fun _ => .no) .no (fun _ => .no) c) (fun _ => .no) q) (fun _ => Bool.rec (motive := fun _ => RX) (k (dst (.tup []) e) d n) (frK b d n (sPK n fun n => k (dst (.tup []) e) d n)) al) (g e)

noncomputable def m1 (f : Gt → St' → OpC) (x : Src) (dst : Option Pos) : BO := BG.rec (motive := fun _ => BO) (fun x => BS.rec (motive := fun _ => BO) (fun d => .mk (f x d)) (dB dst)) (vB x)
noncomputable def m2 (f : Gt → Gt → St' → OpC) (x y : Src) (dst : Option Pos) : BO := BG.rec (motive := fun _ => BO) (fun x => BG.rec (motive := fun _ => BO) (fun y => BS.rec (motive := fun _ => BO) (fun d => .mk (f x y d)) (dB dst)) (vB y)) (vB x)
noncomputable def m3 (f : Gt → Gt → Gt → St' → OpC) (x y z : Src) (dst : Option Pos) : BO := BG.rec (motive := fun _ => BO) (fun x => BG.rec (motive := fun _ => BO) (fun y => BG.rec (motive := fun _ => BO) (fun z => BS.rec (motive := fun _ => BO) (fun d => .mk (f x y z d)) (dB dst)) (vB z)) (vB y)) (vB x)
noncomputable def mL (f : (Env → List TV) → St' → OpC) (l : List Src) (dst : Option Pos) : BO := BL.rec (motive := fun _ => BO) (fun x => BS.rec (motive := fun _ => BO) (fun d => .mk (f x d)) (dB dst)) (vsB l)
def eB : K → BE
  | .mov => .mk (eMov)
  | .pick => .mk (ePick)
  | .alloc e zs => .mk (eAlloc e zs)
  | .box e s => .mk (eBox e s)
  | .build zs ps => .mk (eBuild zs ps)
  | .lit e s len zs idx => .mk (eLit e s len zs idx)
  | .load s agg => .mk (eLoad s agg)
  | .store s => .mk (eStore s)
  | .nilchk => .mk (eNilchk)
  | .bin op => .mk (eBin op)
  | .eql neg q => .mk (eEql neg q)
  | .un op => .mk (eUn op)
  | .cint k => .mk (eCint k)
  | .same => .mk (eSame)
  | .b2s => .mk (eB2s)
  | .s2b e => .mk (eS2b e)
  | .i2s => .mk (eI2s)
  | .mki t => .mk (eMki t)
  | .mkf fn nf => .mk (eMkf fn nf)
  | .mkm => .mk (eMkm)
  | .mks e s bytes zs => .mk (eMks e s bytes zs)
  | .subs lo hi => .mk (eSubs lo hi)
  | .subl s lo hi mx => .mk (eSubl s lo hi mx)
  | .suba n s lo hi mx => .mk (eSuba n s lo hi mx)
  | .fadr d => .mk (eFadr d)
  | .fld off s agg => .mk (eFld off s agg)
  | .idxl s => .mk (eIdxl s)
  | .idxa n s => .mk (eIdxa n s)
  | .idxs => .mk (eIdxs)
  | .idxg n s agg => .mk (eIdxg n s agg)
  | .look q z ok => .mk (eLook q z ok)
  | .put q => .mk (ePut q)
  | .ment q z => .mk (eMent q z)
  | .mest => .mk (eMest)
  | .rngs => .mk (eRngs)
  | .rngm => .mk (eRngm)
  | .nexts => .mk (eNexts)
  | .nextm => .mk (eNextm)
  | .ext i => .mk (eExt i)
  | .lens => .mk (eLens)
  | .lenl => .mk (eLenl)
  | .lenm => .mk (eLenm)
  | .lena n => .mk (eLena n)
  | .capl => .mk (eCapl)
  | .app e s bytes str => .mk (eApp e s bytes str)
  | .cpy s str => .mk (eCpy s str)
  | .del q => .mk (eDel q)
  | .mx big => .mk (eMx big)
  | .ent => .mk (eEnt)
  | .p2u => .mk (eP2u)
  | .u2p ok => .mk (eU2p ok)
  | .usd => .mk (eUsd)
  | .ust e ok => .mk (eUst e ok)
  | .mknz e => .mk (eMknz e)
  | .ibs => .mk (eIbs)
  | _ => .mk (fun _ _ => .fail)
noncomputable def gen0 (k : K) (args : List Src) (dst : Option Pos) : BO := BE.rec (motive := fun _ => BO) (fun f => mL (cGen0 f) args dst) (eB k)
noncomputable def gen1 (k : K) (args : List Src) (dst : Option Pos) : BO := BE.rec (motive := fun _ => BO) (fun f => mL (cGen1 f) args dst) (eB k)
noncomputable def cK0 (k : K) (args : List Src) (dst : Option Pos) : BO := match k, args with
  | .mov, [x] => m1 cMov x dst
  | .pick, [c, x, y] => m3 cPick c x y dst
  | .idxs, [x, y] => m2 cIdxs x y dst
  | .lens, [x] => m1 cLens x dst
  | .lenl, [x] => m1 cLenl x dst
  | .fadr c, [x] => m1 (cFadr c) x dst
  | .store s, [x, y] => m2 (cStore s) x y dst
  | .idxl s, [x, y] => m2 (cIdxl s) x y dst
  | .load 1 false, [x] => m1 cLd1 x dst
  | .load s true, [x] => m1 (cLdA s) x dst
  | .nilchk, [x] => m1 cNil x dst
  | .ext i, [x] => m1 (cExtr i) x dst
  | .un .not, [x] => m1 cNot x dst
  | .bin .eql, [x, y] => m2 (cCmp (fun a b => decide (a = b)) Nat.beq .eql) x y dst
  | .bin .neq, [x, y] => m2 (cCmp (fun a b => !decide (a = b)) (fun a b => Bool.rec (motive := fun _ => Bool) true false (Nat.beq a b)) .neq) x y dst
  | .bin .lss, [x, y] => m2 (cCmp (fun a b => decide (a < b)) Nat.blt .lss) x y dst
  | .bin .leq, [x, y] => m2 (cCmp (fun a b => decide (a ≤ b)) Nat.ble .leq) x y dst
  | .bin .gtr, [x, y] => m2 (cCmp (fun a b => decide (a > b)) (fun a b => Nat.blt b a) .gtr) x y dst
  | .bin .geq, [x, y] => m2 (cCmp (fun a b => decide (a ≥ b)) (fun a b => Nat.ble b a) .geq) x y dst
  | .bin .add, [x, y] => m2 cAdd x y dst
  | .bin .sub, [x, y] => m2 cSub x y dst
  | k, args => gen0 k args dst
noncomputable def cK1 (k : K) (args : List Src) (dst : Option Pos) : BO := match k, args with
  | .alloc t zs, [] => BS.rec (motive := fun _ => BO) (fun d => .mk (cAlloc t zs d)) (dB dst)
  | .box t s, [x] => m1 (cBox t s) x dst
  | k, args => gen1 k args dst
noncomputable def cKa (k : K) (args : List Src) (dst : Option Pos) (al : Bool) : BO := Bool.rec (motive := fun _ => BO) (cK0 k args dst) (cK1 k args dst) al
noncomputable def gdB (p : Pos) (w al : Bool) (dst : Option Pos) (f : BO) : BO := BO.rec (motive := fun _ => BO) (fun f => BG.rec (motive := fun _ => BO) (fun g => BS.rec (motive := fun _ => BO) (fun d => .mk (cGd g w al d f)) (dB dst)) (gB p)) f
noncomputable def cC1 (args : List Src) (dst : Option Pos) : BO := match args with
  | [] => .mk fun _ _ _ _ _ _ => .no
  | x :: r => BG.rec (motive := fun _ => BO) (fun x => mL (cCall x) r dst) (vB x)
def slowO (o : OP) : BO := .mk fun ck b e d n k => match runOps ck b [o] e d n with
  | .ok e d n => k e d n
  | .no => .no
noncomputable def cO1 (o : OP) : BO := match o with
  | .op ⟨k, args, dst, g⟩ al => (match g with
    | none => cKa k args dst al
    | some (p, w) => gdB p w al dst (cKa k args dst al))
  | .call args dst g => (match g with
    | none => cC1 args dst
    | some (p, w) => gdB p w false dst (cC1 args dst))
  | o => slowO o
noncomputable def cOs : List OP → BO
  | [] => .mk fun _ _ e d n k => k e d n
  | o :: r => BO.rec (motive := fun _ => BO) (fun f => BO.rec (motive := fun _ => BO) (fun g => .mk fun ck b e d n k => f ck b e d n fun e d n => g ck b e d n k) (cOs r)) (cO1 o)
noncomputable def seqF (f g : Clo) : Clo := fun ck fu b e d n k => f ck fu b e d n fun x e d n => Ex.rec (motive := fun _ => RX) (g ck fu b e d n k) (fun id => k (.exit id) e d n) (k .ret e d n) x
noncomputable def condF (c : Gt) (f g : Clo) : Clo := fun ck fu b e d n k => asB (c e) fun t => bC t (f ck fu b e d n k) (g ck fu b e d n k)
noncomputable def blockF (id : Nat) (f : Clo) : Clo := fun ck fu b e d n k => f ck fu b e d n fun x e d n => Ex.rec (motive := fun _ => RX) (k .normal e d n) (fun i => bC (Nat.beq i id) (k .normal e d n) (k (.exit i) e d n)) (k .ret e d n) x
noncomputable def loopF (f : Clo) : Clo := fun ck fu b e d n k => Nat.rec (motive := fun _ => Env → DM → Pos → RX) (fun _ _ _ => .no) (fun _ ih e d n => f ck fu b e d n fun x e d n => Ex.rec (motive := fun _ => RX) (ih e d n) (fun id => k (.exit id) e d n) (k .ret e d n) x) fu e d n
noncomputable def regF (f : OpC) : Clo := fun ck _ b e d n k => f ck b e d n (k .normal)
noncomputable def c2 (f : Clo → Clo → Clo) (x y : BC) : BC := BC.rec (motive := fun _ => BC) (fun x => BC.rec (motive := fun _ => BC) (fun y => .mk (f x y)) y) x
noncomputable def c1 (f : Clo → Clo) (x : BC) : BC := BC.rec (motive := fun _ => BC) (fun x => .mk (f x)) x
def isPure : K → Bool
  | .mov => true | .pick => true | .build _ _ => true | .load _ _ => true | .nilchk => true | .bin _ => true | .eql _ _ => true | .un _ => true | .cint _ => true | .same => true | .i2s => true
  | .subs _ _ => true | .fadr _ => true | .fld _ _ _ => true | .idxl _ => true | .idxa _ _ => true | .idxs => true | .idxg _ _ _ => true | .look _ _ _ => true | .ext _ => true
  | .lens => true | .lenl => true | .lenm => true | .lena _ => true | .capl => true | .mx _ => true | .usd => true | .ibs => true
  | _ => false
def pureO : OP → Bool
  | .op o al => match al with
    | true => false
    | false => isPure o.k
  | _ => false
def allP : List OP → Bool
  | [] => true
  | o :: l => match pureO o with
    | true => allP l
    | false => false
def pureAt : List OP → Nat → Bool
  | [], _ => false
  | o :: _, 0 => pureO o
  | _ :: l, i + 1 => pureAt l i
def fltP (ops : List OP) : List (Nat × Nat) → List (Nat × Nat)
  | [] => []
  | p :: r => match pureAt ops p.1, pureAt ops p.2 with
    | true, true => fltP ops r
    | _, _ => p :: fltP ops r
def infX (o : FO) (al : Bool) (b : HP) (e : Env) (d : DM) (r : Pos) : Inf := match stepF e (HP.ov b (clrR al d r)).get r o with
  | some (out, wr) => .op (keyOfW wr) (trF e (HP.ov b (clrR al d r)).get r o) (freshW al r wr) (qF e r o) out
  | none => .op none [] true .fail .unk
noncomputable def dPure (o : FO) (f : OpC) : DOp := fun ck b _ e d r n k => f ck b e d r fun e' d' r' => k (infX o false b e d r) e' d' r' n
noncomputable def okK (b : HP) (d : DM) (wr : Option (Pos × EO)) (k : RX) : RX := Option.rec (motive := fun _ => RX) k (fun p => bC (isRes (hG (.ov b d) p.1)) .no k) wr
noncomputable def clK (al : Bool) (d : DM) (r : Pos) (k : DM → RX) : RX := Bool.rec (motive := fun _ => RX) (k d) (dSK r .none d k) al
noncomputable def sPi (al : Bool) (r : Pos) (k : Pos → RX) : RX := Bool.rec (motive := fun _ => RX) (k r) (sPK r k) al
noncomputable def dGen (o : FO) (al : Bool) (f : List TV → Pos → Q) (vs : Env → List TV) (dst : St') : DOp := fun _ b _ e d r n k => clK al d r fun d1 => qK b d1 (f (vs e) r) fun out wr => okK b d1 wr (sWK wr d fun d2 => sPi al r fun r' => k (infX o al b e d r) (dst out e) d2 r' n)
def dSlow (o : FO) (al : Bool) : DOp := fun _ b _ e d r n k => match stepF e (HP.ov b (clrR al d r)).get r o with
  | some (out, wr) => bif okW (HP.ov b (clrR al d r)).get wr then k (infX o al b e d r) (setD e o.dst out) (setW d wr) (succIf al r) n else .no
  | none => .no
noncomputable def dCallK (ck : Callk) (b : HP) (rs : List Pos) (t : Tgt) (vs : List TV) (d : DM) (n : Pos) (k : Inf → TV → DM → Pos → RX) : RX := RCx (ck.call (.ov b d) t vs .leaf n) fun out d' n' => bC (noneD d' rs) (k (.call (.ov b d) d') out (mergeD d' d) n') .no
noncomputable def dCallS (ck : Callk) (b : HP) (rs : List Pos) (vs : List TV) (d : DM) (n : Pos) (k : Inf → TV → DM → Pos → RX) : RX := match enters (HP.ov b d).get vs with
  | some (t, vs) => dCallK ck b rs t vs d n k
  | none => .no
noncomputable def dCall (x : Gt) (v : Env → List TV) (dst : St') : DOp := fun ck b rs e d r n k => asC (x e) fun c => CV.rec (motive := fun _ => RX) (fun _ => .no) (fun _ _ => .no) (fun _ => .no) .no (fun _ _ _ => .no) (fun _ => .no) .no (fun _ _ _ _ _ => .no) (fun _ => .no) .no (fun _ => .no) .no (fun f => dCallK ck b rs (.fn f) (v e) d n fun i out d n => k i (dst out e) d r n) (fun p => dCallS ck b rs (.pv (.one (.clo p)) :: v e) d n fun i out d n => k i (dst out e) d r n) .no (fun _ => .no) c
noncomputable def dGd (g : Gt) (w : Bool) (dst : St') (f : DOp) : DOp := fun ck b rs e d r n k => TV.rec (motive := fun _ => RX) .no (fun q => PV.rec (motive := fun _ => RX) (fun c => CV.rec (motive := fun _ => RX) (fun t => bC (Bool.rec (motive := fun _ => Bool) (Bool.rec (motive := fun _ => Bool) true false t) t w) (f ck b rs e d r n k) (k (.op none [] true .fail .unk) (dst (.tup []) e) d r n)) (fun _ _ => .no) (fun _ => .no) .no (fun _ _ _ => .no) (fun _ => .no) .no (fun _ _ _ _ _ => .no) (fun _ => .no) .no (fun _ => .no) .no (fun _ => .no) (fun _ => .no) .no (fun _ => .no) c) (fun _ => .no) q) (fun _ => k (.op none [] true .fail .unk) (dst (.tup []) e) d r n) (g e)
noncomputable def dC1 (args : List Src) (dst : Option Pos) : BD1 := match args with
  | [] => .mk fun _ _ _ _ _ _ _ _ => .no
  | x :: r => BG.rec (motive := fun _ => BD1) (fun x => BL.rec (motive := fun _ => BD1) (fun v => BS.rec (motive := fun _ => BD1) (fun d => .mk (dCall x v d)) (dB dst)) (vsB r)) (vB x)
noncomputable def dO1 (o : OP) : BD1 := match o with
  | .op ⟨k, args, dst, g⟩ al => (match pureO (.op ⟨k, args, dst, g⟩ al) with
    | true => BO.rec (motive := fun _ => BD1) (fun f => .mk (dPure ⟨k, args, dst, g⟩ f)) (cO1 (.op ⟨k, args, dst, g⟩ al))
    | false => (match g with
      | none => BE.rec (motive := fun _ => BD1) (fun f => BL.rec (motive := fun _ => BD1) (fun v => BS.rec (motive := fun _ => BD1) (fun d => .mk (dGen ⟨k, args, dst, none⟩ al f v d)) (dB dst)) (vsB args)) (eB k)
      | some p => .mk (dSlow ⟨k, args, dst, some p⟩ al)))
  | .call args dst g => (match g with
    | none => dC1 args dst
    | some (p, w) => BD1.rec (motive := fun _ => BD1) (fun f => BG.rec (motive := fun _ => BD1) (fun g => BS.rec (motive := fun _ => BD1) (fun d => .mk (dGd g w d f)) (dB dst)) (gB p)) (dC1 args dst))
  | _ => .mk fun _ _ _ _ _ _ _ _ => .no
noncomputable def dOs : List OP → BD
  | [] => .mk fun _ _ _ e d _ n k => k [] e d n
  | o :: l => BD1.rec (motive := fun _ => BD) (fun f => BD.rec (motive := fun _ => BD) (fun g => .mk fun ck b rs e d r n k => f ck b rs e d r n fun i e d r n => g ck b rs e d r n fun l e d n => k (i :: l) e d n) (dOs l)) (dO1 o)
/-- How many objects are made. -/
def alN : List OP → Nat
  | [] => 0
  | .op _ true :: l => Nat.succ (alN l)
  | _ :: l => alN l
noncomputable def resvK (m : Nat) (b : HP) : DM → Pos → (List Pos → DM → Pos → RX) → RX := Nat.rec (motive := fun _ => DM → Pos → (List Pos → DM → Pos → RX) → RX) (fun d n k => k [] d n) (fun _ ih d n k => frK b d n (dSK n .res d fun d1 => sPK n fun n1 => ih d1 n1 fun l d' n' => k (n :: l) d' n')) m
noncomputable def pksK (l : List Inf) (ps : List (Nat × Nat)) (k : RX) : RX := List.rec (motive := fun _ => RX) k (fun p _ ih => bC (pairOk l p) ih .no) ps
noncomputable def drF (m : Nat) (ps : List (Nat × Nat)) (g : DOps) : Clo := fun ck _ b e d n k => resvK m b d n fun rs d1 n1 => g ck b rs e d1 n n1 fun l e d n => pksK l ps (k .normal e d n)
/-- The pairs lie in the region. -/
def psIn (m : Nat) (ps : List (Nat × Nat)) : Bool := ps.all fun p => Nat.blt p.1 m && Nat.blt p.2 m
noncomputable def dFc (ops : List OP) (ps : List (Nat × Nat)) : BC := match allP ops && psIn ops.length ps with
  | true => BO.rec (motive := fun _ => BC) (fun f => .mk (regF f)) (cOs ops)
  | false => BD.rec (motive := fun _ => BC) (fun g => .mk (drF (alN ops) (fltP ops ps) g)) (dOs ops)
def drX (ck : Callk) (ops : List OP) (ps : List (Nat × Nat)) (b : HP) (e : Env) (d : DM) (n : Pos) : RX := match resvD b ops d n with
    | some (rs, d1, n1) => match runT ck b rs ops e d1 n n1 with
      | .ok l e d n => bif pairsOk l ps then .ok .normal e d n else .no
      | .no => .no
    | none => .no
noncomputable def fc : FC → BC
  | .skip => .mk fun _ _ _ e d n k => k .normal e d n
  | .region ops => BO.rec (motive := fun _ => BC) (fun f => .mk (regF f)) (cOs ops)
  | .drawn ops ps => dFc ops ps
  | .seq x y => c2 seqF (fc x) (fc y)
  | .cond c x y => BG.rec (motive := fun _ => BC) (fun c => c2 (condF c) (fc x) (fc y)) (vB c)
  | .block id x => c1 (blockF id) (fc x)
  | .loop x => c1 loopF (fc x)
  | .exit id => .mk fun _ _ _ e d n k => k (.exit id) e d n
  | .ret => .mk fun _ _ _ e d n k => k .ret e d n
  | c => .mk fun ck fu b e d n k => bX (exec ck fu c b e d n) k
inductive FJ where
  | no
  | ok (code : Clo) (res : List FR) (nt : Nat)
noncomputable def fj (fi : FuncId → Option Fi) (f : FuncId) : FJ := match fi f with
  | some x => BC.rec (motive := fun _ => FJ) (fun c => .ok c x.res x.nt) (fc x.code)
  | none => .no
/-- Calls whose end is known. -/
abbrev Tb := FuncId → HP → List TV → DM → Pos → RC
def noTb : Tb := fun _ _ _ _ _ => .no
def orRC (a : RC) (b : RC) : RC := match a with
  | .no => b
  | .ok v d n => .ok v d n
/-- Calls, with those whose end is known. -/
def mkT (tb : Tb) (fi : FuncId → Option Fi) (fuel : Nat) : Nat → Yk → Ck
  | 0, yk, b, t, args, d, n => match t with
    | .yld j => yk b j args d n
    | .fn _ => .no
  | dp + 1, yk, b, t, args, d, n => match t with
    | .yld j => yk b j args d n
    | .fn f => orRC (tb f b args d n) (match fi f with
      | some x => match Nat.ble args.length x.nt with
        | true => retR b x.res (exec (ckOf (mkT tb fi fuel dp) yk) fuel x.code b (ofArgs args .e .leaf) d n)
        | false => .no
      | none => .no)
noncomputable def ofA (l : List TV) : Env → Pos → Env := List.rec (motive := fun _ => Env → Pos → Env) (fun e _ => e) (fun a _ ih e p => ih (BS.rec (motive := fun _ => Env) (fun s => s a e) (sB p)) (sP p)) l
noncomputable def lnT (l : List TV) : Nat := List.rec (motive := fun _ => Nat) 0 (fun _ _ ih => Nat.add ih 1) l
noncomputable def mkR (tb : Tb) (fi : FuncId → Option Fi) (fuel : Nat) : Nat → Yk → Ck := fun dp => Nat.rec (motive := fun _ => Yk → Ck)
  (fun yk b t args d n => Tgt.rec (motive := fun _ => RC) (fun _ => .no) (fun j => yk b j args d n) t)
  (fun _ ih yk b t args d n => Tgt.rec (motive := fun _ => RC) (fun f => RC.rec (motive := fun _ => RC) (FJ.rec (motive := fun _ => RC) .no (fun c res nt => Bool.rec (motive := fun _ => RC) .no (retR b res (c (ckOf ih yk) fuel b (ofA args .leaf .e) d n fun x e d n => .ok x e d n)) (Nat.ble (lnT args) nt)) (fj fi f)) (fun v d n => .ok v d n) (tb f b args d n)) (fun j => yk b j args d n) t) dp
end Go.Proofs.YtdjhicbhegaenaaGreatDoor.Clo
namespace Go.Proofs.YtdjhicbhegaenaaGreatDoor.Clo
open Go Go.RowKit

theorem gB_eq : ∀ p : Pos, gB p = .mk (fun e => PM.get .unk e p)
  | .e => by
    show BG.mk vl = _
    congr 1; funext e; cases e <;> rfl
  | .o p => by
    show BG.rec (motive := fun _ => BG) (fun g => .mk fun t => g (lf t)) (gB p) = _
    rw [gB_eq p]
    show BG.mk (fun t => PM.get .unk (lf t) p) = _
    congr 1; funext e; cases e <;> rfl
  | .i p => by
    show BG.rec (motive := fun _ => BG) (fun g => .mk fun t => g (rt t)) (gB p) = _
    rw [gB_eq p]
    show BG.mk (fun t => PM.get .unk (rt t) p) = _
    congr 1; funext e; cases e <;> rfl
theorem sB_eq : ∀ p : Pos, sB p = .mk (fun x t => PM.set .unk p t x)
  | .e => by
    show BS.mk _ = _
    congr 1; funext x e; cases e <;> rfl
  | .o p => by
    show BS.rec (motive := fun _ => BS) (fun s => .mk fun x t => PM.rec (motive := fun _ => Env) (.node (s x .leaf) .unk .leaf) (fun l a r _ _ => .node (s x l) a r) t) (sB p) = _
    rw [sB_eq p]
    show BS.mk _ = _
    congr 1; funext x e; cases e <;> rfl
  | .i p => by
    show BS.rec (motive := fun _ => BS) (fun s => .mk fun x t => PM.rec (motive := fun _ => Env) (.node .leaf .unk (s x .leaf)) (fun l a r _ _ => .node l a (s x r)) t) (sB p) = _
    rw [sB_eq p]
    show BS.mk _ = _
    congr 1; funext x e; cases e <;> rfl
theorem vB_eq (s : Src) : vB s = .mk (fun e => valS e s) := by
  cases s with
  | t p => exact gB_eq p
  | c v => rfl
theorem dB_eq (d : Option Pos) : dB d = .mk (fun v e => setD e d v) := by
  cases d with
  | none => rfl
  | some p => exact sB_eq p
theorem vsB_eq : ∀ l : List Src, vsB l = .mk (fun e => valsS e l)
  | [] => rfl
  | s :: l => by
    show BG.rec (motive := fun _ => BL) (fun g => BL.rec (motive := fun _ => BL) (fun h => .mk fun e => g e :: h e) (vsB l)) (vB s) = _
    rw [vsB_eq l, vB_eq s]
    rfl

theorem dG_eq : ∀ (k : Pos) (d : DM), dG k d = PM.get none d k
  | .e, d => by cases d <;> rfl
  | .o k, d => by
    show dG k (dlf d) = _
    rw [dG_eq k]
    cases d <;> rfl
  | .i k, d => by
    show dG k (drt d) = _
    rw [dG_eq k]
    cases d <;> rfl
theorem dSK_eq (o : EO) : ∀ (k : Pos) (d : DM) (K : DM → RX), dSK k o d K = K (dset d k o)
  | .e, d, K => by cases d <;> rfl
  | .o k, d, K => by
    cases d with
    | leaf => exact dSK_eq o k .leaf _
    | node l a r => exact dSK_eq o k l _
  | .i k, d, K => by
    cases d with
    | leaf => exact dSK_eq o k .leaf _
    | node l a r => exact dSK_eq o k r _
theorem sPK_eq : ∀ (p : Pos) (K : Pos → RX), sPK p K = K p.succ
  | .e, _ => rfl
  | .o _, _ => rfl
  | .i p, K => sPK_eq p fun q => K (.o q)
theorem sP_eq : ∀ p : Pos, sP p = p.succ
  | .e => rfl
  | .o _ => rfl
  | .i p => by show Pos.o (sP p) = _; rw [sP_eq p]; rfl
theorem pN_eq : ∀ p : Pos, pN p = p.num
  | .e => rfl
  | .o p => by show Nat.add (Nat.mul 2 (pN p)) 1 = _; rw [pN_eq p]; rfl
  | .i p => by show Nat.add (Nat.mul 2 (pN p)) 2 = _; rw [pN_eq p]; rfl
theorem hG_eq : ∀ (b : HP) (k : Pos), hG b k = b.get k
  | .nil, _ => rfl
  | .ov b d, k => by
    show Option.rec (motive := fun _ => EO) (hG b k) (fun o => o) (dG k d) = _
    rw [hG_eq b, dG_eq]
    simp only [HP.get]
    cases PM.get none d k <;> rfl
  | .cut b n, k => by
    show Bool.rec (motive := fun _ => EO) .none (hG b k) (Nat.blt (pN k) (pN n)) = _
    rw [hG_eq b, pN_eq, pN_eq]
    simp only [HP.get]
    cases Nat.blt k.num n.num <;> rfl
theorem frK_eq (b : HP) (d : DM) (n : Pos) (k : RX) : frK b d n k = bif freeO true (HP.ov b d).get n then k else .no := by
  unfold frK
  rw [hG_eq]
  simp only [freeO]
  cases (HP.ov b d).get n <;> rfl
theorem bC_eq (t : Bool) (a b : RX) : bC t a b = bif t then a else b := by cases t <;> rfl
theorem nI_eq (n : Int) (k : Int → RX) : nI n k = k n := by
  cases n with
  | ofNat m => cases m <;> rfl
  | negSucc m => cases m <;> rfl
theorem nN_eq (n : Nat) (k : Nat → RX) : nN n k = k n := by cases n <;> rfl
theorem sWK_eq (wr : Option (Pos × EO)) (d : DM) (k : DM → RX) : sWK wr d k = k (setW d wr) := by
  cases wr with
  | none => rfl
  | some p => exact dSK_eq p.2 p.1 d k
theorem qK_eq (b : HP) (d : DM) (k : TV → Option (Pos × EO) → RX) : ∀ q : Q, qK b d q k = match q.run (HP.ov b d).get with
    | some (out, wr) => k out wr
    | none => .no
  | .fail => rfl
  | .ret _ _ => rfl
  | .rd p f => by
    show qK b d (f (hG (.ov b d) p)) k = _
    rw [qK_eq b d k (f (hG (.ov b d) p)), hG_eq]
    rfl

/-- What an operation does, as a closure. -/
def refO (o : OP) : OpC := fun ck b e d n k => match runOps ck b [o] e d n with
  | .ok e d n => k e d n
  | .no => .no
theorem refO_op (o : FO) (al : Bool) : refO (.op o al) = oneX o al := by
  funext ck b e d n k
  simp only [refO, oneX, runOps]
  cases freeO al (HP.ov b d).get n with
  | false => rfl
  | true =>
    simp only [cond_true]
    cases stepF e (HP.ov b d).get n o <;> rfl

section
variable (x y z : Src) (r : Option Pos)
theorem step_none (e : Env) (h : Pos → EO) (f : Pos) (k : K) (args : List Src) : stepF e h f ⟨k, args, r, none⟩ = (effK k (valsS e args) f).run h := rfl

theorem cGen0_eq (k : K) (args : List Src) : cGen0 (effK k) (fun e => valsS e args) (fun v e => setD e r v) = oneX ⟨k, args, r, none⟩ false := by
  funext ck b e d n K
  simp only [cGen0, oneX, qK_eq, step_none, freeO, cond_true]
  cases (effK k (valsS e args) n).run (HP.ov b d).get with
  | none => rfl
  | some p => exact sWK_eq _ _ _
theorem cGen1_eq (k : K) (args : List Src) : cGen1 (effK k) (fun e => valsS e args) (fun v e => setD e r v) = oneX ⟨k, args, r, none⟩ true := by
  funext ck b e d n K
  simp only [cGen1, oneX, qK_eq, step_none, frK_eq]
  cases freeO true (HP.ov b d).get n with
  | false => rfl
  | true =>
    simp only [cond_true]
    cases (effK k (valsS e args) n).run (HP.ov b d).get with
    | none => rfl
    | some p => simp only [sWK_eq, sPK_eq]; rfl
theorem cMov_eq : cMov (fun e => valS e x) (fun v e => setD e r v) = oneX ⟨.mov, [x], r, none⟩ false := rfl
theorem cPick_eq : cPick (fun e => valS e x) (fun e => valS e y) (fun e => valS e z) (fun v e => setD e r v) = oneX ⟨.pick, [x, y, z], r, none⟩ false := by
  funext ck b e d n K
  simp only [cPick, oneX, step_none, freeO, cond_true, effK, valsS]
  generalize valS e x = v
  rcases v with _ | p | l
  · rfl
  · rcases p with c | l
    · cases c with
      | bl t => cases t <;> rfl
      | _ => rfl
    · rfl
  · rfl
theorem cNot_eq : cNot (fun e => valS e x) (fun v e => setD e r v) = oneX ⟨.un .not, [x], r, none⟩ false := by
  funext ck b e d n K
  simp only [cNot, oneX, step_none, freeO, cond_true, effK, valsS]
  generalize valS e x = v
  rcases v with _ | p | l
  · rfl
  · rcases p with c | l
    · cases c with
      | bl t => cases t <;> rfl
      | _ => rfl
    · rfl
  · rfl
theorem cFadr_eq (c : Nat) : cFadr c (fun e => valS e x) (fun v e => setD e r v) = oneX ⟨.fadr c, [x], r, none⟩ false := by
  funext ck b e d n K
  simp only [cFadr, oneX, step_none, freeO, cond_true, effK, valsS, nN_eq]
  generalize valS e x = v
  rcases v with _ | p | l
  · rfl
  · rcases p with c | l
    · cases c <;> rfl
    · rfl
  · rfl
theorem lnN_eq : ∀ l : List Nat, lnN l = l.length
  | [] => rfl
  | _ :: l => by show Nat.add (lnN l) 1 = _; rw [lnN_eq l]; rfl
theorem lnC_eq : ∀ l : List CV, lnC l = l.length
  | [] => rfl
  | _ :: l => by show Nat.add (lnC l) 1 = _; rw [lnC_eq l]; rfl
theorem lnT_eq : ∀ l : List TV, lnT l = l.length
  | [] => rfl
  | _ :: l => by show Nat.add (lnT l) 1 = _; rw [lnT_eq l]; rfl
theorem cLens_eq : cLens (fun e => valS e x) (fun v e => setD e r v) = oneX ⟨.lens, [x], r, none⟩ false := by
  funext ck b e d n K
  simp only [cLens, oneX, step_none, freeO, cond_true, effK, valsS, nN_eq]
  generalize valS e x = v
  rcases v with _ | p | l
  · rfl
  · rcases p with c | l
    · cases c with
      | str s =>
        simp only [eLens, retI, nfI_eq, Q.run, asS, asC, lnN_eq]
        rfl
      | _ => rfl
    · rfl
  · rfl
theorem cLenl_eq : cLenl (fun e => valS e x) (fun v e => setD e r v) = oneX ⟨.lenl, [x], r, none⟩ false := by
  funext ck b e d n K
  simp only [cLenl, oneX, step_none, freeO, cond_true, effK, valsS, nN_eq]
  generalize valS e x = v
  rcases v with _ | p | l
  · rfl
  · rcases p with c | l
    · cases c with
      | sl p g o n c =>
        simp only [eLenl, retI, nfI_eq, Q.run, asC]
        rfl
      | _ => rfl
    · rfl
  · rfl
theorem cNil_eq : cNil (fun e => valS e x) (fun v e => setD e r v) = oneX ⟨.nilchk, [x], r, none⟩ false := by
  funext ck b e d n K
  simp only [cNil, oneX, step_none, freeO, cond_true, effK, valsS]
  generalize valS e x = v
  rcases v with _ | p | l
  · rfl
  · rcases p with c | l
    · cases c <;> rfl
    · rfl
  · rfl
theorem nthP_eq (k : PV → RX) : ∀ (l : List PV) (i : Nat), nthP l i k = match l.drop i with
    | p :: _ => k p
    | [] => .no
  | [], i => by simp [nthP]
  | a :: l, 0 => rfl
  | a :: l, i + 1 => by
    show nthP l i k = _
    rw [nthP_eq k l i]
    rfl
theorem cExtr_eq (i : Nat) : cExtr i (fun e => valS e x) (fun v e => setD e r v) = oneX ⟨.ext i, [x], r, none⟩ false := by
  funext ck b e d n K
  simp only [cExtr, oneX, step_none, freeO, cond_true, effK, valsS, nthP_eq]
  generalize valS e x = v
  rcases v with _ | p | l
  · rfl
  · rfl
  · simp only [eExt, tuK]
    cases l.drop i <;> rfl
theorem nthL_eq (k : Nat → RX) : ∀ (l : List Nat) (i : Nat), nthL l i k = match l.drop i with
    | p :: _ => k p
    | [] => .no
  | [], i => by simp [nthL]
  | a :: l, 0 => rfl
  | a :: l, i + 1 => by
    show nthL l i k = _
    rw [nthL_eq k l i]
    rfl
theorem cIdxs_eq : cIdxs (fun e => valS e x) (fun e => valS e y) (fun v e => setD e r v) = oneX ⟨.idxs, [x, y], r, none⟩ false := by
  funext ck b e d n K
  simp only [cIdxs, oneX, step_none, freeO, cond_true, effK, valsS, nN_eq, nthL_eq]
  generalize valS e x = v
  generalize valS e y = u
  rcases v with _ | p | l
  · rfl
  · rcases p with c | l
    · cases c with
      | str s =>
        rcases u with _ | p | l
        · rfl
        · rcases p with c | l
          · cases c with
            | int ki i =>
              cases i with
              | ofNat i =>
                simp only [eIdxs, asS, asC, asI]
                cases s.drop i with
                | nil => rfl
                | cons c t => simp only [retI, nfI_eq, Q.run]; rfl
              | negSucc i => rfl
            | _ => rfl
          · rfl
        · rfl
      | _ => rfl
    · rfl
  · rfl
theorem cIdxl_eq (s : Nat) : cIdxl s (fun e => valS e x) (fun e => valS e y) (fun v e => setD e r v) = oneX ⟨.idxl s, [x, y], r, none⟩ false := by
  funext ck b e d n K
  simp only [cIdxl, oneX, step_none, freeO, cond_true, effK, valsS, nN_eq]
  generalize valS e x = v
  generalize valS e y = u
  rcases v with _ | p | l
  · rfl
  · rcases p with c | l
    · cases c with
      | sl p g o m c =>
        rcases u with _ | p | l
        · rfl
        · rcases p with c | l
          · cases c with
            | int ki i =>
              cases i with
              | ofNat i =>
                simp only [eIdxl, asL, asC, asI, bC_eq]
                cases Nat.blt i m <;> rfl
              | negSucc i => rfl
            | _ => rfl
          · rfl
        · rfl
      | _ => rfl
    · rfl
  · rfl

theorem cCmp_eq (f : Int → Int → Bool) (fn : Nat → Nat → Bool) (op : BinOp) (h1 : ∀ k a b, binI op k a b = retB (f a b)) (h2 : ∀ a b, fn a b = f (.ofNat a) (.ofNat b)) (h3 : op ≠ .shl ∧ op ≠ .shr) : cCmp f fn op (fun e => valS e x) (fun e => valS e y) (fun v e => setD e r v) = oneX ⟨.bin op, [x, y], r, none⟩ false := by
  funext ck b e d n K
  simp only [cCmp, oneX, step_none, freeO, cond_true, effK, valsS, qK_eq]
  generalize valS e x = v
  generalize valS e y = u
  have gen : (match (eBin op [v, u] n).run (HP.ov b d).get with | some (out, wr) => sWK wr d fun d => K (setD e r out) d n | none => RX.no) = (match (eBin op [v, u] n).run (HP.ov b d).get with | some (out, wr) => K (setD e r out) (setW d wr) (succIf false n) | none => .no) := by
    cases (eBin op [v, u] n).run (HP.ov b d).get with
    | none => rfl
    | some p => exact sWK_eq _ _ _
  rcases v with _ | p | l
  · rfl
  · rcases p with c | l
    · cases c with
      | int ka a =>
        simp only [asI, asC]
        rcases u with _ | p | l
        · rfl
        · rcases p with c | l
          · cases c with
            | int kb b' =>
              have e1 : eBin op [.pv (.one (.int ka a)), .pv (.one (.int kb b'))] n = bif kq ka kb then binI op ka a b' else .fail := by
                cases op <;> first | rfl | exact absurd rfl h3.1 | exact absurd rfl h3.2
              rw [e1, h1]
              simp only [bC_eq]
              cases kq ka kb with
              | false => rfl
              | true =>
                have e2 : i2 a b' (fun a b' => bif fn a b' then K (setD e r (oB true)) d n else K (setD e r (oB false)) d n) (bif f a b' then K (setD e r (oB true)) d n else K (setD e r (oB false)) d n) = K (setD e r (oB (f a b'))) d n := by
                  cases a with
                  | ofNat a =>
                    cases b' with
                    | ofNat b' =>
                      show (bif fn a b' then K (setD e r (oB true)) d n else K (setD e r (oB false)) d n) = _
                      rw [h2]
                      cases f (.ofNat a) (.ofNat b') <;> rfl
                    | negSucc b' => show (bif f _ _ then _ else _) = _; cases f (.ofNat a) (.negSucc b') <;> rfl
                  | negSucc a => show (bif f _ _ then _ else _) = _; cases f (.negSucc a) b' <;> rfl
                simp only [cond_true]
                rw [e2]
                rfl
            | _ => rfl
          · rfl
        · rfl
      | _ => exact gen
    · rfl
  · rfl
theorem wrap64 (s : Nat) (h : Nat.blt s 9223372036854775808 = true) : IntKind.wrap .i64 (.ofNat s) = .ofNat s := by
  have h := blt_t.1 h
  have e1 : (s : Int) % (2 ^ 64 : Int) = s := by omega
  have e2 : IntKind.wrap .i64 (s : Int) = if (true && decide ((s : Int) % (2 ^ 64 : Int) ≥ (2 ^ 63 : Int))) = true then (s : Int) % (2 ^ 64 : Int) - (2 ^ 64 : Int) else (s : Int) % (2 ^ 64 : Int) := rfl
  show IntKind.wrap .i64 (s : Int) = (s : Int)
  rw [e2, if_neg]
  · exact e1
  · simp only [Bool.true_and, decide_eq_true_eq, e1]
    omega
theorem is64_eq {k : IntKind} (h : is64 k = true) : k = .i64 := by cases k <;> first | rfl | cases h
theorem cAdd_eq : cAdd (fun e => valS e x) (fun e => valS e y) (fun v e => setD e r v) = oneX ⟨.bin .add, [x, y], r, none⟩ false := by
  funext ck b e d n K
  simp only [cAdd, oneX, step_none, freeO, cond_true, effK, valsS, qK_eq, nI_eq, nN_eq]
  generalize valS e x = v
  generalize valS e y = u
  have gen : (match (eBin .add [v, u] n).run (HP.ov b d).get with | some (out, wr) => sWK wr d fun d => K (setD e r out) d n | none => RX.no) = (match (eBin .add [v, u] n).run (HP.ov b d).get with | some (out, wr) => K (setD e r out) (setW d wr) (succIf false n) | none => .no) := by
    cases (eBin .add [v, u] n).run (HP.ov b d).get with
    | none => rfl
    | some p => exact sWK_eq _ _ _
  rcases v with _ | p | l
  · rfl
  · rcases p with c | l
    · cases c with
      | int ka a =>
        simp only [asI, asC]
        rcases u with _ | p | l
        · rfl
        · rcases p with c | l
          · cases c with
            | int kb b' =>
              show bC _ _ _ = match (cond (kq ka kb) (binI .add ka a b') .fail).run (HP.ov b d).get with | some (out, wr) => _ | none => _
              simp only [bC_eq]
              cases kq ka kb with
              | false => rfl
              | true =>
                simp only [cond_true, binI, retI, nfI_eq, Q.run]
                have tail : ∀ m : Int, m = ka.wrap (a + b') → K (setD e r (oI ka m)) d n = K (setD e r (.pv (.one (.int ka (ka.wrap (a + b')))))) (setW d none) (succIf false n) := fun m hm => by rw [hm]; rfl
                cases a with
                | negSucc a => exact tail _ rfl
                | ofNat a =>
                  cases b' with
                  | negSucc b' => exact tail _ rfl
                  | ofNat b' =>
                    show (bif is64 ka then bif Nat.blt (Nat.add a b') 9223372036854775808 then _ else _ else _) = _
                    cases h64 : is64 ka with
                    | false => exact tail _ rfl
                    | true =>
                      have := is64_eq h64
                      subst this
                      simp only [cond_true]
                      cases hlt : Nat.blt (Nat.add a b') 9223372036854775808 with
                      | false => exact tail _ rfl
                      | true => exact tail _ (wrap64 _ hlt).symm
            | _ => rfl
          · rfl
        · rfl
      | _ => exact gen
    · rfl
  · rfl
theorem cSub_eq : cSub (fun e => valS e x) (fun e => valS e y) (fun v e => setD e r v) = oneX ⟨.bin .sub, [x, y], r, none⟩ false := by
  funext ck b e d n K
  simp only [cSub, oneX, step_none, freeO, cond_true, effK, valsS, qK_eq, nI_eq, nN_eq]
  generalize valS e x = v
  generalize valS e y = u
  have gen : (match (eBin .sub [v, u] n).run (HP.ov b d).get with | some (out, wr) => sWK wr d fun d => K (setD e r out) d n | none => RX.no) = (match (eBin .sub [v, u] n).run (HP.ov b d).get with | some (out, wr) => K (setD e r out) (setW d wr) (succIf false n) | none => .no) := by
    cases (eBin .sub [v, u] n).run (HP.ov b d).get with
    | none => rfl
    | some p => exact sWK_eq _ _ _
  rcases v with _ | p | l
  · rfl
  · rcases p with c | l
    · cases c with
      | int ka a =>
        simp only [asI, asC]
        rcases u with _ | p | l
        · rfl
        · rcases p with c | l
          · cases c with
            | int kb b' =>
              show bC _ _ _ = match (cond (kq ka kb) (binI .sub ka a b') .fail).run (HP.ov b d).get with | some (out, wr) => _ | none => _
              simp only [bC_eq]
              cases kq ka kb with
              | false => rfl
              | true =>
                simp only [cond_true, binI, retI, nfI_eq, Q.run]
                have tail : ∀ m : Int, m = ka.wrap (a - b') → K (setD e r (oI ka m)) d n = K (setD e r (.pv (.one (.int ka (ka.wrap (a - b')))))) (setW d none) (succIf false n) := fun m hm => by rw [hm]; rfl
                cases a with
                | negSucc a => exact tail _ rfl
                | ofNat a =>
                  cases b' with
                  | negSucc b' => exact tail _ rfl
                  | ofNat b' =>
                    show (bif Nat.ble b' a then bif is64 ka then bif Nat.blt a 9223372036854775808 then _ else _ else _ else _) = _
                    cases hle : Nat.ble b' a with
                    | false => exact tail _ rfl
                    | true =>
                      simp only [cond_true]
                      cases h64 : is64 ka with
                      | false => exact tail _ rfl
                      | true =>
                        have := is64_eq h64
                        subst this
                        simp only [cond_true]
                        cases hlt : Nat.blt a 9223372036854775808 with
                        | false => exact tail _ rfl
                        | true =>
                          have hle := ble_t.1 hle
                          have hlt := blt_t.1 hlt
                          have e1 : (Int.ofNat a - Int.ofNat b' : Int) = Int.ofNat (Nat.sub a b') := by
                            show (a : Int) - (b' : Int) = ((a - b' : Nat) : Int)
                            omega
                          refine tail _ ?_
                          rw [e1]
                          exact (wrap64 _ (blt_t.2 (Nat.lt_of_le_of_lt (Nat.sub_le a b') hlt))).symm
            | _ => rfl
          · rfl
        · rfl
      | _ => exact gen
    · rfl
  · rfl

theorem ptG_eq : ∀ (t : PT Ch) (i : Nat), ptG t i = t.get dch i
  | .leaf, _ => rfl
  | .node l a r, 0 => rfl
  | .node l a r, i + 1 => by
    show Bool.rec (motive := fun _ => Ch) (ptG r (Nat.div i 2)) (ptG l (Nat.div i 2)) (Nat.beq (Nat.mod i 2) 0) = _
    rw [ptG_eq l, ptG_eq r]
    show _ = match Nat.beq (i % 2) 0 with | true => l.get dch (i / 2) | false => r.get dch (i / 2)
    show Bool.rec (motive := fun _ => Ch) (r.get dch (i / 2)) (l.get dch (i / 2)) (Nat.beq (i % 2) 0) = _
    cases Nat.beq (i % 2) 0 <;> rfl
theorem drC_eq : ∀ (l : List CV) (n : Nat), drC l n = l.drop n
  | [], n => by simp [drC]
  | _ :: _, 0 => rfl
  | _ :: l, n + 1 => drC_eq l n
theorem tkC_eq : ∀ (l : List CV) (n : Nat), tkC l n = l.take n
  | [], n => by simp [tkC]
  | _ :: _, 0 => rfl
  | a :: l, n + 1 => by show a :: tkC l n = _; rw [tkC_eq l n]; rfl
theorem apC_eq (m : List CV) : ∀ l : List CV, apC l m = l ++ m
  | [] => rfl
  | a :: l => by show a :: apC l m = _; rw [apC_eq m l]; rfl
theorem spC_eq (cs : List CV) (off : Nat) (new : List CV) : spC cs off new = splice cs off new := by
  simp only [spC, splice, apC_eq, tkC_eq, drC_eq, lnC_eq, List.append_assoc]
  rfl
theorem pg_eq (t : PT Ch) : (pgL t = match t with | .leaf => .leaf | .node l _ _ => l) ∧ (pgR t = match t with | .leaf => .leaf | .node _ _ r => r) ∧ (pgV t = match t with | .leaf => dch | .node _ a _ => a) := by
  cases t <;> exact ⟨rfl, rfl, rfl⟩
theorem ptS_eq (x : Ch) : ∀ (f : Nat) (t : PT Ch) (i : Nat), ptS f t i x = PT.set dch f t i x
  | 0, _, _ => rfl
  | f + 1, t, 0 => by cases t <;> rfl
  | f + 1, t, i + 1 => by
    show Bool.rec (motive := fun _ => PT Ch) (.node (pgL t) (pgV t) (ptS f (pgR t) (Nat.div i 2) x)) (.node (ptS f (pgL t) (Nat.div i 2) x) (pgV t) (pgR t)) (Nat.beq (Nat.mod i 2) 0) = _
    rw [ptS_eq x f, ptS_eq x f]
    show Bool.rec (motive := fun _ => PT Ch) (.node (pgL t) (pgV t) (PT.set dch f (pgR t) (i / 2) x)) (.node (PT.set dch f (pgL t) (i / 2) x) (pgV t) (pgR t)) (Nat.beq (i % 2) 0) = _
    cases t with
    | leaf =>
      simp only [PT.set]
      cases Nat.beq (i % 2) 0 <;> rfl
    | node l a r =>
      simp only [PT.set]
      cases Nat.beq (i % 2) 0 <;> rfl
theorem rdK_eq (b : HP) (d : DM) (p : Pos) (g off m : Nat) (K : List CV → RX) : rdK b d p g off m K = match (HP.ov b d).get p with
    | .row _ s el len gen _ => bif Nat.ble g gen && Nat.blt (off / s) len then
        match el.get dch (off / s) with
        | ⟨cs, mm⟩ => bif Nat.ble mm g && Nat.ble (off % s + m) s then K (cs.drop (off % s)) else .no
      else .no
    | _ => .no := by
  unfold rdK
  rw [hG_eq]
  cases (HP.ov b d).get p with
  | row t s el len gen fz =>
    show bC (Nat.ble g gen) (bC (Nat.blt (off / s) len) (chK (ptG el (off / s)) fun cs mm => bC (Nat.ble mm g) (bC (Nat.ble (off % s + m) s) (K (drC cs (off % s))) .no) .no) .no) .no = _
    simp only [bC_eq, ptG_eq, drC_eq]
    cases Nat.ble g gen with
    | false => rfl
    | true =>
      cases Nat.blt (off / s) len with
      | false => rfl
      | true =>
        simp only [cond_true, Bool.and_self]
        cases el.get dch (off / s) with
        | mk cs mm =>
          show (bif Nat.ble mm g then (bif Nat.ble (off % s + m) s then _ else _) else _) = _
          cases Nat.ble mm g with
          | false => rfl
          | true => cases Nat.ble (off % s + m) s <;> rfl
  | _ => rfl
theorem load_run (h : Pos → EO) (s : Nat) (agg : Bool) (p : Pos) (g off : Nat) (f : Pos) : (eLoad s agg [.pv (.one (.ptr p g off))] f).run h = match h p with
    | .row _ s' el len gen _ => bif Nat.ble g gen && Nat.blt (off / s') len then
        match el.get dch (off / s') with
        | ⟨cs, mm⟩ => bif Nat.ble mm g && Nat.ble (off % s' + s) s' then (match toPV agg ((cs.drop (off % s')).take s) with | some p => some (.pv p, none) | none => none) else none
      else none
    | _ => none := by
  simp only [eLoad, Q.run, rdRow]
  cases h p with
  | row t s' el len gen fz =>
    simp only
    cases (Nat.ble g gen && Nat.blt (off / s') len) with
    | false => rfl
    | true =>
      simp only [cond_true]
      cases el.get dch (off / s') with
      | mk cs mm =>
        simp only
        cases (Nat.ble mm g && Nat.ble (off % s' + s) s') with
        | false => rfl
        | true =>
          simp only [cond_true]
          cases toPV agg ((cs.drop (off % s')).take s) <;> rfl
  | _ => rfl
theorem cLd1_eq : cLd1 (fun e => valS e x) (fun v e => setD e r v) = oneX ⟨.load 1 false, [x], r, none⟩ false := by
  funext ck b e d n K
  simp only [cLd1, oneX, step_none, freeO, cond_true, effK, valsS, rdK_eq]
  generalize valS e x = v
  rcases v with _ | p | l
  · rfl
  · rcases p with c | l
    · cases c with
      | ptr p g off =>
        rw [load_run]
        simp only [asR, asC]
        cases (HP.ov b d).get p with
        | row t s' el len gen fz =>
          simp only
          cases (Nat.ble g gen && Nat.blt (off / s') len) with
          | false => rfl
          | true =>
            simp only [cond_true]
            cases el.get dch (off / s') with
            | mk cs mm =>
              simp only
              cases (Nat.ble mm g && Nat.ble (off % s' + 1) s') with
              | false => rfl
              | true =>
                simp only [cond_true]
                cases cs.drop (off % s') <;> rfl
        | _ => rfl
      | _ => rfl
    · rfl
  · rfl
theorem cLdA_eq (s : Nat) : cLdA s (fun e => valS e x) (fun v e => setD e r v) = oneX ⟨.load s true, [x], r, none⟩ false := by
  funext ck b e d n K
  simp only [cLdA, oneX, step_none, freeO, cond_true, effK, valsS, rdK_eq, tkC_eq]
  generalize valS e x = v
  rcases v with _ | p | l
  · rfl
  · rcases p with c | l
    · cases c with
      | ptr p g off =>
        rw [load_run]
        simp only [asR, asC]
        cases (HP.ov b d).get p with
        | row t s' el len gen fz =>
          simp only
          cases (Nat.ble g gen && Nat.blt (off / s') len) with
          | false => rfl
          | true =>
            simp only [cond_true]
            cases el.get dch (off / s') with
            | mk cs mm =>
              simp only
              cases (Nat.ble mm g && Nat.ble (off % s' + s) s') with
              | false => rfl
              | true => rfl
        | _ => rfl
      | _ => rfl
    · rfl
  · rfl
theorem clP_eq (p : PV) : clP p = p.cells := by cases p <;> rfl
theorem store_run (h : Pos → EO) (s : Nat) (p : Pos) (g off : Nat) (v : PV) (f : Pos) : (eStore s [.pv (.one (.ptr p g off)), .pv v] f).run h = bif Nat.beq v.cells.length s then (match h p with
    | .row t s' el len gen fz => bif Nat.beq g gen && Nat.blt (off / s') len && Nat.ble (off % s' + v.cells.length) s' && fzNo fz then
        match el.get dch (off / s') with
        | ⟨cs, _⟩ => some (.unk, some (p, .row t s' (el.set dch 32 (off / s') ⟨splice cs (off % s') v.cells, gen⟩) len gen fz))
      else none
    | _ => none) else none := by
  simp only [eStore]
  cases Nat.beq v.cells.length s with
  | false => rfl
  | true =>
    simp only [cond_true, Q.run, wrRow]
    cases h p with
    | row t s' el len gen fz =>
      simp only
      cases (Nat.beq g gen && Nat.blt (off / s') len && Nat.ble (off % s' + v.cells.length) s' && fzNo fz) with
      | false => rfl
      | true =>
        simp only [cond_true]
        cases el.get dch (off / s') with
        | mk cs mm => rfl
    | _ => rfl
theorem cStore_eq (m : Nat) : cStore m (fun e => valS e x) (fun e => valS e y) (fun v e => setD e r v) = oneX ⟨.store m, [x, y], r, none⟩ false := by
  funext ck b e d n K
  simp only [cStore, oneX, step_none, freeO, cond_true, effK, valsS, hG_eq, clP_eq, lnC_eq, dSK_eq]
  generalize valS e x = v
  generalize valS e y = u
  rcases v with _ | p | l
  · rfl
  · rcases p with c | l
    · cases c with
      | ptr p g off =>
        rcases u with _ | u | l
        · rfl
        · rw [store_run]
          simp only [asR, asC, asP, bC_eq]
          cases hm : Nat.beq u.cells.length m with
          | false => rfl
          | true =>
            have hm : u.cells.length = m := Nat.eq_of_beq_eq_true hm
            simp only [cond_true]
            cases (HP.ov b d).get p with
            | row t s' el len gen fz =>
              simp only [roW, hm]
              cases Nat.beq g gen with
              | false => rfl
              | true =>
                show (bif Nat.blt (off / s') len then (bif Nat.ble (off % s' + m) s' then fzK fz (chK (ptG el (off / s')) fun cs _ => K (setD e r .unk) (dset d p (.row t s' (ptS 32 el (off / s') ⟨spC cs (off % s') u.cells, gen⟩) len gen fz)) n) else .no) else .no) = _
                cases Nat.blt (off / s') len with
                | false => rfl
                | true =>
                  cases Nat.ble (off % s' + m) s' with
                  | false => rfl
                  | true =>
                    simp only [cond_true, ptS_eq, spC_eq, ptG_eq, Bool.and_self, Bool.true_and]
                    cases fz with
                    | no =>
                      simp only [fzK, fzNo, cond_true]
                      cases el.get dch (off / s') with
                      | mk cs mm => rfl
                    | _ => rfl
            | _ => rfl
        · rfl
      | _ => rcases u with _ | u | l <;> rfl
    · rcases u with _ | u | l <;> rfl
  · rcases u with _ | u | l <;> rfl
theorem cAlloc_eq (t : TypeId) (zs : List CV) : cAlloc t zs (fun v e => setD e r v) = oneX ⟨.alloc t zs, [], r, none⟩ true := by
  funext ck b e d n K
  simp only [cAlloc, oneX, step_none, frK_eq, dSK_eq, sPK_eq]
  cases freeO true (HP.ov b d).get n <;> rfl
theorem cBox_eq (t : TypeId) (s : Nat) : cBox t s (fun e => valS e x) (fun v e => setD e r v) = oneX ⟨.box t s, [x], r, none⟩ true := by
  funext ck b e d n K
  simp only [cBox, oneX, step_none, frK_eq, dSK_eq, sPK_eq, valsS, effK, clP_eq, lnC_eq]
  cases freeO true (HP.ov b d).get n with
  | false => rfl
  | true =>
    simp only [cond_true]
    generalize valS e x = v
    rcases v with _ | p | l
    · rfl
    · simp only [asP, bC_eq, eBox]
      cases Nat.beq p.cells.length s <;> rfl
    · rfl
end

theorem eB_eq (k : K) : eB k = .mk (effK k) := by cases k <;> rfl
theorem m1_eq (f : Gt → St' → OpC) (x : Src) (r : Option Pos) : m1 f x r = .mk (f (fun e => valS e x) (fun v e => setD e r v)) := by
  unfold m1; rw [vB_eq, dB_eq]
theorem m2_eq (f : Gt → Gt → St' → OpC) (x y : Src) (r : Option Pos) : m2 f x y r = .mk (f (fun e => valS e x) (fun e => valS e y) (fun v e => setD e r v)) := by
  unfold m2; rw [vB_eq, vB_eq, dB_eq]
theorem m3_eq (f : Gt → Gt → Gt → St' → OpC) (x y z : Src) (r : Option Pos) : m3 f x y z r = .mk (f (fun e => valS e x) (fun e => valS e y) (fun e => valS e z) (fun v e => setD e r v)) := by
  unfold m3; rw [vB_eq, vB_eq, vB_eq, dB_eq]
theorem mL_eq (f : (Env → List TV) → St' → OpC) (l : List Src) (r : Option Pos) : mL f l r = .mk (f (fun e => valsS e l) (fun v e => setD e r v)) := by
  unfold mL; rw [vsB_eq, dB_eq]
theorem gen0_eq (k : K) (args : List Src) (r : Option Pos) : gen0 k args r = .mk (oneX ⟨k, args, r, none⟩ false) := by
  unfold gen0; rw [eB_eq]; show mL (cGen0 (effK k)) args r = _; rw [mL_eq, cGen0_eq]
theorem gen1_eq (k : K) (args : List Src) (r : Option Pos) : gen1 k args r = .mk (oneX ⟨k, args, r, none⟩ true) := by
  unfold gen1; rw [eB_eq]; show mL (cGen1 (effK k)) args r = _; rw [mL_eq, cGen1_eq]
theorem not_rec (b : Bool) : (Bool.rec (motive := fun _ => Bool) true false b : Bool) = !b := by cases b <;> rfl
theorem cK0_eq (k : K) (args : List Src) (r : Option Pos) : cK0 k args r = .mk (oneX ⟨k, args, r, none⟩ false) := by
  unfold cK0
  split
  · rw [m1_eq, cMov_eq]
  · rw [m3_eq, cPick_eq]
  · rw [m2_eq, cIdxs_eq]
  · rw [m1_eq, cLens_eq]
  · rw [m1_eq, cLenl_eq]
  · rw [m1_eq, cFadr_eq]
  · rw [m2_eq, cStore_eq]
  · rw [m2_eq, cIdxl_eq]
  · rw [m1_eq, cLd1_eq]
  · rw [m1_eq, cLdA_eq]
  · rw [m1_eq, cNil_eq]
  · rw [m1_eq, cExtr_eq]
  · rw [m1_eq, cNot_eq]
  · rw [m2_eq, cCmp_eq _ _ _ _ _ _ (fun _ _ _ => rfl) (fun a b => by
      cases h : Nat.beq a b with
      | true => rw [Nat.eq_of_beq_eq_true h]; simp
      | false => have := Nat.ne_of_beq_eq_false h; symm; simp; omega) ⟨by decide, by decide⟩]
  · rw [m2_eq, cCmp_eq _ _ _ _ _ _ (fun _ _ _ => rfl) (fun a b => by
      rw [not_rec]
      cases h : Nat.beq a b with
      | true => rw [Nat.eq_of_beq_eq_true h]; simp
      | false => have := Nat.ne_of_beq_eq_false h; symm; simp; omega) ⟨by decide, by decide⟩]
  · rw [m2_eq, cCmp_eq _ _ _ _ _ _ (fun _ _ _ => rfl) (fun a b => by
      cases h : Nat.blt a b with
      | true => have := blt_t.1 h; symm; simp; omega
      | false => have : ¬ a < b := fun q => by rw [blt_t.2 q] at h; cases h
                 symm; simp; omega) ⟨by decide, by decide⟩]
  · rw [m2_eq, cCmp_eq _ _ _ _ _ _ (fun _ _ _ => rfl) (fun a b => by
      cases h : Nat.ble a b with
      | true => have := ble_t.1 h; symm; simp; omega
      | false => have : ¬ a ≤ b := fun q => by rw [ble_t.2 q] at h; cases h
                 symm; simp; omega) ⟨by decide, by decide⟩]
  · rw [m2_eq, cCmp_eq _ _ _ _ _ _ (fun _ _ _ => rfl) (fun a b => by
      cases h : Nat.blt b a with
      | true => have := blt_t.1 h; symm; simp; omega
      | false => have : ¬ b < a := fun q => by rw [blt_t.2 q] at h; cases h
                 symm; simp; omega) ⟨by decide, by decide⟩]
  · rw [m2_eq, cCmp_eq _ _ _ _ _ _ (fun _ _ _ => rfl) (fun a b => by
      cases h : Nat.ble b a with
      | true => have := ble_t.1 h; symm; simp; omega
      | false => have : ¬ b ≤ a := fun q => by rw [ble_t.2 q] at h; cases h
                 symm; simp; omega) ⟨by decide, by decide⟩]
  · rw [m2_eq, cAdd_eq]
  · rw [m2_eq, cSub_eq]
  · exact gen0_eq _ _ _
theorem cK1_eq (k : K) (args : List Src) (r : Option Pos) : cK1 k args r = .mk (oneX ⟨k, args, r, none⟩ true) := by
  unfold cK1
  split
  · rw [dB_eq]; show BO.mk _ = _; rw [cAlloc_eq]
  · rw [m1_eq, cBox_eq]
  · exact gen1_eq _ _ _
theorem cKa_eq (k : K) (args : List Src) (r : Option Pos) (al : Bool) : cKa k args r al = .mk (oneX ⟨k, args, r, none⟩ al) := by
  cases al with
  | false => exact cK0_eq k args r
  | true => exact cK1_eq k args r
theorem cGd_eq (p : Pos) (w al : Bool) (k : K) (args : List Src) (r : Option Pos) : cGd (fun e => PM.get .unk e p) w al (fun v e => setD e r v) (oneX ⟨k, args, r, none⟩ al) = oneX ⟨k, args, r, some (p, w)⟩ al := by
  funext ck b e d n K
  simp only [cGd, frK_eq, sPK_eq]
  have e0 : oneX ⟨k, args, r, some (p, w)⟩ al ck b e d n K = bif freeO al (HP.ov b d).get n then (match (match (match e.get .unk p with
      | .pv (.one (.bl b)) => some (match w with | true => b | false => !b)
      | .tup _ => some false
      | _ => none) with
      | some b' => match b' with
        | true => (effK k (valsS e args) n).run (HP.ov b d).get
        | false => some (.tup [], none)
      | none => none) with
    | some (out, wr) => K (setD e r out) (setW d wr) (succIf al n)
    | none => .no) else .no := rfl
  rw [e0]
  have e1 : ∀ K, oneX ⟨k, args, r, none⟩ al ck b e d n K = bif freeO al (HP.ov b d).get n then (match (effK k (valsS e args) n).run (HP.ov b d).get with
    | some (out, wr) => K (setD e r out) (setW d wr) (succIf al n)
    | none => .no) else .no := fun _ => rfl
  have e2 : (Bool.rec (motive := fun _ => RX) (K (setD e r (.tup [])) d n) (bif freeO true (HP.ov b d).get n then K (setD e r (.tup [])) d n.succ else .no) al : RX) = bif freeO al (HP.ov b d).get n then K (setD e r (.tup [])) d (succIf al n) else .no := by cases al <;> rfl
  generalize PM.get .unk e p = v
  rcases v with _ | q | l
  · show RX.no = _; cases freeO al (HP.ov b d).get n <;> rfl
  · rcases q with c | l
    · cases c with
      | bl t =>
        simp only [bC_eq]
        cases w <;> cases t <;> first | exact e1 K | exact e2
      | _ => show RX.no = _; cases freeO al (HP.ov b d).get n <;> rfl
    · show RX.no = _; cases freeO al (HP.ov b d).get n <;> rfl
  · exact e2
theorem gdB_eq (p : Pos) (w al : Bool) (r : Option Pos) (f : OpC) : gdB p w al r (.mk f) = .mk (cGd (fun e => PM.get .unk e p) w al (fun v e => setD e r v) f) := by
  unfold gdB; rw [gB_eq, dB_eq]

/-- What a call does, as a closure. -/
theorem refO_call (args : List Src) (r : Option Pos) (ck : Callk) (b : HP) (e : Env) (d : DM) (n : Pos) (k : Ko) : refO (.call args r none) ck b e d n k = match enters (HP.ov b d).get (valsS e args) with
    | some (t, vs) => match ck.call b t vs d n with
      | .ok out d' n' => k (setD e r out) d' n'
      | .no => .no
    | none => .no := by
  simp only [refO, runOps, gd]
  cases enters (HP.ov b d).get (valsS e args) with
  | none => rfl
  | some p =>
    obtain ⟨t, vs⟩ := p
    simp only
    cases ck.call b t vs d n <;> rfl
theorem cC1_eq (args : List Src) (r : Option Pos) : cC1 args r = .mk (refO (.call args r none)) := by
  unfold cC1
  split
  · congr 1
  · rename_i x l
    rw [vB_eq]
    show mL (cCall (fun e => valS e x)) l r = _
    rw [mL_eq]
    congr 1
    funext ck b e d n K
    rw [refO_call]
    simp only [cCall, valsS]
    generalize valS e x = v
    rcases v with _ | p | m
    · rfl
    · rcases p with c | m
      · cases c with
        | fnc f =>
          simp only [asC, enters, RCx]
          cases ck.call b (.fn f) (valsS e l) d n <;> rfl
        | clo q =>
          simp only [asC, cCallX, RCx]
          cases enters (HP.ov b d).get (.pv (.one (.clo q)) :: valsS e l) with
          | none => rfl
          | some p =>
            obtain ⟨t, vs⟩ := p
            simp only
            cases ck.call b t vs d n <;> rfl
        | _ => rfl
      · rfl
    · rfl
theorem refO_callG (args : List Src) (r : Option Pos) (p : Pos) (w : Bool) : cGd (fun e => PM.get .unk e p) w false (fun v e => setD e r v) (refO (.call args r none)) = refO (.call args r (some (p, w))) := by
  funext ck b e d n K
  have e0 : refO (.call args r (some (p, w))) ck b e d n K = match (match e.get .unk p with
      | .pv (.one (.bl b)) => some (match w with | true => b | false => !b)
      | .tup _ => some false
      | _ => none) with
      | some true => refO (.call args r none) ck b e d n K
      | some false => K (setD e r (.tup [])) d n
      | none => .no := by
    simp only [refO, runOps]
    show (match (match gd e (some (p, w)) with | some true => _ | some false => _ | none => _ : RS) with | .ok e d n => K e d n | .no => RX.no) = match gd e (some (p, w)) with | some true => _ | some false => _ | none => _
    cases gd e (some (p, w)) with
    | none => rfl
    | some t => cases t <;> rfl
  rw [e0]
  simp only [cGd]
  generalize PM.get .unk e p = v
  rcases v with _ | q | l
  · rfl
  · rcases q with c | l
    · cases c with
      | bl t =>
        simp only [bC_eq]
        cases w <;> cases t <;> rfl
      | _ => rfl
    · rfl
  · rfl
theorem cO1_eq (o : OP) : cO1 o = .mk (refO o) := by
  unfold cO1
  split
  · rename_i k args r g al
    rw [refO_op]
    split
    · exact cKa_eq k args r al
    · rename_i p w
      rw [cKa_eq, gdB_eq, cGd_eq]
  · rename_i args r g
    split
    · exact cC1_eq args r
    · rename_i p w
      rw [cC1_eq, gdB_eq, refO_callG]
  · rfl
theorem runOps_cons (ck : Callk) (b : HP) (o : OP) (l : List OP) (e : Env) (d : DM) (n : Pos) : runOps ck b (o :: l) e d n = match runOps ck b [o] e d n with
    | .ok e d n => runOps ck b l e d n
    | .no => .no := by
  cases o with
  | op o al =>
    simp only [runOps]
    cases freeO al (HP.ov b d).get n with
    | false => rfl
    | true =>
      simp only [cond_true]
      cases stepF e (HP.ov b d).get n o <;> rfl
  | call args r g =>
    simp only [runOps]
    cases gd e g with
    | none => rfl
    | some t =>
      cases t with
      | false => rfl
      | true =>
        simp only
        cases enters (HP.ov b d).get (valsS e args) with
        | none => rfl
        | some p =>
          obtain ⟨t, vs⟩ := p
          simp only
          cases ck.call b t vs d n <;> rfl
  | nxt x r =>
    simp only [runOps]
    cases nextQ (HP.ov b d).get (valS e x) <;> rfl
  | bad => rfl
theorem cOs_eq : ∀ l : List OP, cOs l = .mk (fun ck b e d n k => match runOps ck b l e d n with | .ok e d n => k e d n | .no => .no)
  | [] => rfl
  | o :: l => by
    show BO.rec (motive := fun _ => BO) (fun f => BO.rec (motive := fun _ => BO) (fun g => .mk fun ck b e d n k => f ck b e d n fun e d n => g ck b e d n k) (cOs l)) (cO1 o) = _
    rw [cO1_eq, cOs_eq l]
    show BO.mk _ = _
    congr 1
    funext ck b e d n k
    rw [runOps_cons]
    simp only [refO]
    cases runOps ck b [o] e d n <;> rfl

end Go.Proofs.YtdjhicbhegaenaaGreatDoor.Clo
namespace Go.Proofs.YtdjhicbhegaenaaGreatDoor.Clo
open Go Go.RowKit

/-- Whether an operation writes nothing, whatever it looks at. -/
def NoW : Q → Prop
  | .fail => True
  | .ret _ wr => wr = none
  | .rd _ f => ∀ o, NoW (f o)
theorem NoW.run {h : Pos → EO} : ∀ {q : Q}, NoW q → ∀ {out : TV} {wr : Option (Pos × EO)}, q.run h = some (out, wr) → wr = none
  | .fail, _, _, _, hr => by cases hr
  | .ret _ _, hn, out, wr, hr => by
    simp only [Q.run, Option.some.injEq, Prod.mk.injEq] at hr
    obtain ⟨_, rfl⟩ := hr
    exact hn
  | .rd k f, hn, out, wr, hr => NoW.run (hn (h k)) hr
theorem noW_retI (k : IntKind) (n : Int) : NoW (retI k n) := by simp only [retI, nfI_eq]; rfl
theorem noW_retV (c : CV) : NoW (retV c) := rfl
theorem noW_retB (c : Bool) : NoW (retB c) := rfl
theorem noW_retP (p : Option PV) : NoW (retP p none) := by unfold retP; split <;> trivial
theorem noW_bif {c : Bool} {p q : Q} (h : NoW p) (k : NoW q) : NoW (bif c then p else q) := by cases c <;> assumption
theorem noW_binI (op : BinOp) (k : IntKind) (a b : Int) : NoW (binI op k a b) := by
  unfold binI
  split <;> first | exact noW_retI _ _ | exact noW_retB _ | exact noW_bif trivial (noW_retI _ _) | trivial
theorem noW_shI (op : BinOp) (k : IntKind) (a b : Int) : NoW (shI op k a b) := by
  unfold shI
  refine noW_bif trivial ?_
  split <;> first | exact noW_retI _ _ | trivial
theorem noW_binS (op : BinOp) (a b : List Nat) : NoW (binS op a b) := by
  unfold binS
  split <;> first | exact noW_retB _ | exact noW_bif (noW_retV _) trivial | trivial
theorem noW_look (ok : Bool) (z : PV) (r : Option PV) : NoW (lookRes ok z r) := by
  unfold lookRes
  split <;> split <;> rfl
theorem pure_noW : ∀ (k : K), isPure k = true → ∀ (vs : List TV) (f : Pos), NoW (effK k vs f) := by
  intro k hk vs f
  cases k <;> first | (cases hk; done) | skip
  all_goals simp only [effK]
  case mov => unfold eMov; split <;> trivial
  case pick => unfold ePick; split <;> first | trivial | (split <;> trivial)
  case build => unfold eBuild; split <;> trivial
  case load =>
    unfold eLoad
    split
    · split
      · intro o
        simp only
        split
        · exact noW_retP _
        · trivial
      · trivial
    · trivial
  case nilchk => unfold eNilchk; split <;> first | trivial | (split <;> trivial)
  case bin op =>
    unfold eBin
    split
    · split
      · split
        · split
          · exact noW_shI _ _ _ _
          · exact noW_shI _ _ _ _
          · exact noW_bif (noW_binI _ _ _ _) trivial
        · exact noW_binS _ _ _
        · trivial
      · trivial
    · trivial
  case eql => unfold eEql; split <;> first | trivial | (split <;> first | trivial | exact noW_retB _)
  case un => unfold eUn; split <;> first | trivial | (split <;> first | trivial | exact noW_retB _ | exact noW_retI _ _)
  case cint => unfold eCint; split <;> first | trivial | (split <;> first | trivial | exact noW_retI _ _)
  case same => unfold eSame; split <;> first | trivial | (split <;> trivial)
  case i2s => unfold eI2s; split <;> first | trivial | (split <;> first | trivial | exact noW_bif (noW_retV _) trivial)
  case subs =>
    unfold eSubs
    split
    · unfold bnds
      split
      · split
        · split
          · split
            · exact noW_bif (noW_retV _) trivial
            · trivial
          · trivial
        · trivial
      · trivial
    · trivial
  case fadr => unfold eFadr; split <;> first | trivial | (split <;> trivial)
  case fld => unfold eFld; split <;> first | trivial | (split <;> first | trivial | exact noW_bif (noW_retP _) trivial)
  case idxl => unfold eIdxl; split <;> first | trivial | (split <;> first | trivial | exact noW_bif (noW_retV _) trivial)
  case idxa => unfold eIdxa; split <;> first | trivial | (split <;> first | trivial | exact noW_bif (noW_retV _) trivial)
  case idxs => unfold eIdxs; split <;> first | trivial | (split <;> first | trivial | (split <;> first | trivial | exact noW_retI _ _))
  case idxg => unfold eIdxg; split <;> first | trivial | (split <;> first | trivial | exact noW_bif (noW_retP _) trivial)
  case look =>
    unfold eLook
    split
    · split
      · refine noW_bif ?_ trivial
        split
        · exact noW_look _ _ _
        · intro o
          simp only
          split
          · split
            · exact noW_look _ _ _
            · trivial
          · trivial
        · trivial
      · trivial
    · trivial
  case ext => unfold eExt; split <;> first | trivial | (split <;> first | trivial | (split <;> trivial))
  case lens => unfold eLens; split <;> first | trivial | (split <;> first | trivial | exact noW_retI _ _)
  case lenl => unfold eLenl; split <;> first | trivial | (split <;> first | trivial | exact noW_retI _ _)
  case lenm =>
    unfold eLenm
    split
    · split
      · exact noW_retI _ _
      · intro o
        simp only
        split
        · exact noW_retI _ _
        · trivial
      · trivial
    · trivial
  case lena => unfold eLena; split <;> first | trivial | exact noW_retI _ _
  case capl => unfold eCapl; split <;> first | trivial | (split <;> first | trivial | exact noW_retI _ _)
  case mx => unfold eMx; split <;> first | trivial | (split <;> first | trivial | exact noW_bif (noW_retI _ _) trivial)
  case usd => unfold eUsd; split <;> first | trivial | (split <;> first | trivial | exact noW_retV _ | exact noW_bif (noW_retV _) trivial)
  case ibs => unfold eIbs; split <;> first | trivial | (split <;> first | trivial | exact noW_bif (noW_retI _ _) trivial)

theorem pure_step {o : FO} (hp : isPure o.k = true) {e : Env} {h : Pos → EO} {f : Pos} {out : TV} {wr : Option (Pos × EO)} (hs : stepF e h f o = some (out, wr)) : wr = none := by
  unfold stepF at hs
  split at hs
  · split at hs
    · exact (pure_noW _ hp _ _).run hs
    · simp only [Option.some.injEq, Prod.mk.injEq] at hs
      exact hs.2.symm
  · cases hs

/-- One operation of a region whose order is open, then what follows. -/
def refD (o : OP) : DOp := fun ck b rs e d r n k => match o with
  | .op o al => match stepF e (HP.ov b (clrR al d r)).get r o with
    | some (out, wr) => bif okW (HP.ov b (clrR al d r)).get wr then k (.op (keyOfW wr) (trF e (HP.ov b (clrR al d r)).get r o) (freshW al r wr) (qF e r o) out) (setD e o.dst out) (setW d wr) (succIf al r) n else .no
    | none => .no
  | .call args dst g => match gd e g with
    | some true => match enters (HP.ov b d).get (valsS e args) with
      | some (t, vs) => match ck.call (.ov b d) t vs .leaf n with
        | .ok out d' n' => bif noneD d' rs then k (.call (.ov b d) d') (setD e dst out) (mergeD d' d) r n' else .no
        | .no => .no
      | none => .no
    | some false => k (.op none [] true .fail .unk) (setD e dst (.tup [])) d r n
    | none => .no
  | _ => .no
theorem infX_some {o : FO} {al : Bool} {b : HP} {e : Env} {d : DM} {r : Pos} {out : TV} {wr : Option (Pos × EO)} (h : stepF e (HP.ov b (clrR al d r)).get r o = some (out, wr)) : infX o al b e d r = .op (keyOfW wr) (trF e (HP.ov b (clrR al d r)).get r o) (freshW al r wr) (qF e r o) out := by
  unfold infX
  rw [h]
theorem pureO_op {o : FO} {al : Bool} (h : pureO (.op o al) = true) : al = false ∧ isPure o.k = true := by
  cases al with
  | true => cases h
  | false => exact ⟨rfl, h⟩
theorem dPure_eq {o : FO} {al : Bool} (h : pureO (.op o al) = true) : dPure o (oneX o al) = refD (.op o al) := by
  obtain ⟨rfl, hp⟩ := pureO_op h
  funext ck b rs e d r n k
  simp only [dPure, oneX, refD, freeO, cond_true, clrR]
  have hi := @infX_some o false b e d r
  simp only [clrR] at hi
  cases hs : stepF e (HP.ov b d).get r o with
  | none => rfl
  | some p =>
    obtain ⟨out, wr⟩ := p
    have := pure_step hp hs
    subst this
    rw [hi hs]
    rfl
theorem okK_eq (b : HP) (d : DM) (wr : Option (Pos × EO)) (k : RX) : okK b d wr k = bif okW (HP.ov b d).get wr then k else .no := by
  cases wr with
  | none => rfl
  | some p =>
    show bC (isRes (hG (.ov b d) p.1)) .no k = _
    rw [hG_eq, bC_eq]
    simp only [okW]
    cases isRes ((HP.ov b d).get p.1) <;> rfl
theorem clK_eq (al : Bool) (d : DM) (r : Pos) (k : DM → RX) : clK al d r k = k (clrR al d r) := by
  cases al with
  | false => rfl
  | true => exact dSK_eq _ _ _ _
theorem sPi_eq (al : Bool) (r : Pos) (k : Pos → RX) : sPi al r k = k (succIf al r) := by
  cases al with
  | false => rfl
  | true => exact sPK_eq _ _
theorem dGen_eq (k : K) (args : List Src) (dst : Option Pos) (al : Bool) : dGen ⟨k, args, dst, none⟩ al (effK k) (fun e => valsS e args) (fun v e => setD e dst v) = refD (.op ⟨k, args, dst, none⟩ al) := by
  funext ck b rs e d r n K
  simp only [dGen, refD, clK_eq, qK_eq, okK_eq, sWK_eq, sPi_eq, step_none]
  have hi := @infX_some ⟨k, args, dst, none⟩ al b e d r
  simp only [step_none] at hi
  cases hs : (effK k (valsS e args) r).run (HP.ov b (clrR al d r)).get with
  | none => rfl
  | some p =>
    obtain ⟨out, wr⟩ := p
    simp only
    rw [hi hs]
theorem dSlow_eq (o : FO) (al : Bool) : dSlow o al = refD (.op o al) := by
  funext ck b rs e d r n K
  simp only [dSlow, refD]
  cases hs : stepF e (HP.ov b (clrR al d r)).get r o with
  | none => rfl
  | some p =>
    obtain ⟨out, wr⟩ := p
    simp only
    rw [infX_some hs]
theorem dCallK_eq (ck : Callk) (b : HP) (rs : List Pos) (t : Tgt) (vs : List TV) (d : DM) (n : Pos) (k : Inf → TV → DM → Pos → RX) : dCallK ck b rs t vs d n k = match ck.call (.ov b d) t vs .leaf n with
    | .ok out d' n' => bif noneD d' rs then k (.call (.ov b d) d') out (mergeD d' d) n' else .no
    | .no => .no := by
  unfold dCallK RCx
  cases ck.call (.ov b d) t vs .leaf n with
  | no => rfl
  | ok out d' n' => exact bC_eq _ _ _
theorem dC1_eq (args : List Src) (dst : Option Pos) : dC1 args dst = .mk (refD (.call args dst none)) := by
  unfold dC1
  split
  · rfl
  · rename_i x l
    rw [vB_eq, vsB_eq, dB_eq]
    show BD1.mk _ = _
    congr 1
    funext ck b rs e d r n K
    simp only [dCall, refD, gd, valsS]
    generalize valS e x = v
    rcases v with _ | p | m
    · rfl
    · rcases p with c | m
      · cases c with
        | fnc f => simp only [asC, enters]; exact dCallK_eq _ _ _ _ _ _ _ _
        | clo q =>
          simp only [asC, dCallS]
          cases enters (HP.ov b d).get (.pv (.one (.clo q)) :: valsS e l) with
          | none => rfl
          | some p =>
            obtain ⟨t, vs⟩ := p
            exact dCallK_eq _ _ _ _ _ _ _ _
        | _ => rfl
      · rfl
    · rfl
theorem dGd_eq (args : List Src) (dst : Option Pos) (p : Pos) (w : Bool) : dGd (fun e => PM.get .unk e p) w (fun v e => setD e dst v) (refD (.call args dst none)) = refD (.call args dst (some (p, w))) := by
  funext ck b rs e d r n K
  have e0 : refD (.call args dst (some (p, w))) ck b rs e d r n K = match (match e.get .unk p with
      | .pv (.one (.bl b)) => some (match w with | true => b | false => !b)
      | .tup _ => some false
      | _ => none) with
      | some true => refD (.call args dst none) ck b rs e d r n K
      | some false => K (.op none [] true .fail .unk) (setD e dst (.tup [])) d r n
      | none => .no := rfl
  rw [e0]
  simp only [dGd]
  generalize PM.get .unk e p = v
  rcases v with _ | q | l
  · rfl
  · rcases q with c | l
    · cases c with
      | bl t =>
        simp only [bC_eq]
        cases w <;> cases t <;> rfl
      | _ => rfl
    · rfl
  · rfl
theorem dO1_eq (o : OP) : dO1 o = .mk (refD o) := by
  cases o with
  | op o al =>
    obtain ⟨k, args, dst, g⟩ := o
    simp only [dO1]
    split
    · rename_i hp
      rw [cO1_eq, refO_op]
      show BD1.mk _ = _
      rw [dPure_eq hp]
    · split
      · rw [eB_eq, vsB_eq, dB_eq]
        show BD1.mk _ = _
        rw [dGen_eq]
      · rw [dSlow_eq]
  | call args dst g =>
    simp only [dO1]
    split
    · exact dC1_eq args dst
    · rename_i p w
      rw [dC1_eq, gB_eq, dB_eq]
      show BD1.mk _ = _
      rw [dGd_eq]
  | nxt x dst => rfl
  | bad => rfl
theorem runT_cons (ck : Callk) (b : HP) (rs : List Pos) (o : OP) (l : List OP) (e : Env) (d : DM) (r n : Pos) (k : List Inf → Env → DM → Pos → RX) :
    (match runT ck b rs (o :: l) e d r n with | .ok l e d n => k l e d n | .no => RX.no) = refD o ck b rs e d r n fun i e d r n => match runT ck b rs l e d r n with | .ok l e d n => k (i :: l) e d n | .no => RX.no := by
  have hc : ∀ (i : Inf) (t : RT'), (match consI i t with | .ok l e d n => k l e d n | .no => RX.no) = match t with | .ok l e d n => k (i :: l) e d n | .no => RX.no := fun i t => by cases t <;> rfl
  cases o with
  | op o al =>
    simp only [runT, refD]
    cases stepF e (HP.ov b (clrR al d r)).get r o with
    | none => rfl
    | some p =>
      obtain ⟨out, wr⟩ := p
      simp only
      cases okW (HP.ov b (clrR al d r)).get wr with
      | false => rfl
      | true => simp only [cond_true]; exact hc _ _
  | call args dst g =>
    simp only [runT, refD]
    cases gd e g with
    | none => rfl
    | some t =>
      cases t with
      | false => exact hc _ _
      | true =>
        simp only
        cases enters (HP.ov b d).get (valsS e args) with
        | none => rfl
        | some p =>
          obtain ⟨t, vs⟩ := p
          simp only
          cases ck.call (.ov b d) t vs .leaf n with
          | no => rfl
          | ok out d' n' =>
            simp only
            cases noneD d' rs with
            | false => rfl
            | true => simp only [cond_true]; exact hc _ _
  | _ => rfl
theorem dOs_eq : ∀ l : List OP, dOs l = .mk (fun ck b rs e d r n k => match runT ck b rs l e d r n with | .ok l e d n => k l e d n | .no => .no)
  | [] => rfl
  | o :: l => by
    show BD1.rec (motive := fun _ => BD) (fun f => BD.rec (motive := fun _ => BD) (fun g => .mk fun ck b rs e d r n k => f ck b rs e d r n fun i e d r n => g ck b rs e d r n fun l e d n => k (i :: l) e d n) (dOs l)) (dO1 o) = _
    rw [dO1_eq, dOs_eq l]
    show BD.mk _ = _
    congr 1
    funext ck b rs e d r n k
    exact (runT_cons ck b rs o l e d r n k).symm

theorem resvK_eq (b : HP) : ∀ (ops : List OP) (d : DM) (n : Pos) (k : List Pos → DM → Pos → RX), resvK (alN ops) b d n k = match resvD b ops d n with
    | some (l, d', n') => k l d' n'
    | none => .no
  | [], _, _, _ => rfl
  | .op o true :: r, d, n, k => by
    show frK b d n (dSK n .res d fun d1 => sPK n fun n1 => resvK (alN r) b d1 n1 fun l d' n' => k (n :: l) d' n') = _
    rw [frK_eq, dSK_eq, sPK_eq, resvK_eq b r]
    simp only [resvD, freeO]
    cases (HP.ov b d).get n with
    | none =>
      simp only [cond_true]
      cases resvD b r (dset d n .res) n.succ with
      | none => rfl
      | some p => rfl
    | _ => rfl
  | .op o false :: r, d, n, k => resvK_eq b r d n k
  | .call _ _ _ :: r, d, n, k => resvK_eq b r d n k
  | .nxt _ _ :: r, d, n, k => resvK_eq b r d n k
  | .bad :: r, d, n, k => resvK_eq b r d n k
theorem pksK_eq (l : List Inf) (k : RX) : ∀ ps : List (Nat × Nat), pksK l ps k = bif pairsOk l ps then k else .no
  | [] => rfl
  | p :: r => by
    show bC (pairOk l p) (pksK l r k) .no = _
    rw [pksK_eq l k r, bC_eq]
    simp only [pairsOk]
    cases pairOk l p <;> rfl

theorem runT_pure {ck : Callk} {b : HP} {rs : List Pos} : ∀ (ops : List OP) {e : Env} {d : DM} {r n : Pos} {l : List Inf} {e' : Env} {d' : DM} {n' : Pos}, runT ck b rs ops e d r n = .ok l e' d' n' → ∀ i, pureAt ops i = true → ∃ tr fr q out, nth l i = some (.op none tr fr q out)
  | [], e, d, r, n, l, e', d', n', h, i, hi => by cases i <;> cases hi
  | o :: ops, e, d, r, n, l, e', d', n', h, i, hi => by
    have key : ∃ j e1 d1 r1 n1 l1, l = j :: l1 ∧ runT ck b rs ops e1 d1 r1 n1 = .ok l1 e' d' n' ∧ (pureO o = true → ∃ tr fr q out, j = .op none tr fr q out) := by
      have cons : ∀ (j : Inf) (t : RT'), consI j t = .ok l e' d' n' → ∃ l1, l = j :: l1 ∧ t = .ok l1 e' d' n' := fun j t ht => by
        cases t with
        | no => cases ht
        | ok l1 e1 d1 n1 =>
          simp only [consI] at ht
          injection ht with h1 h2 h3 h4
          subst h1; subst h2; subst h3; subst h4
          exact ⟨l1, rfl, rfl⟩
      cases o with
      | op o al =>
        simp only [runT] at h
        split at h
        · rename_i out wr hs
          rw [Bool.cond_eq_ite] at h
          split at h
          · obtain ⟨l1, h1, h2⟩ := cons _ _ h
            refine ⟨_, _, _, _, _, l1, h1, h2, fun hp => ?_⟩
            obtain ⟨rfl, hp⟩ := pureO_op hp
            have := pure_step hp hs
            subst this
            exact ⟨_, _, _, _, rfl⟩
          · cases h
        · cases h
      | call args dst g =>
        simp only [runT] at h
        split at h
        · split at h
          · split at h
            · rw [Bool.cond_eq_ite] at h
              split at h
              · obtain ⟨l1, h1, h2⟩ := cons _ _ h
                exact ⟨_, _, _, _, _, l1, h1, h2, fun hp => by cases hp⟩
              · cases h
            · cases h
          · cases h
        · obtain ⟨l1, h1, h2⟩ := cons _ _ h
          exact ⟨_, _, _, _, _, l1, h1, h2, fun hp => by cases hp⟩
        · cases h
      | nxt x dst => cases h
      | bad => cases h
    obtain ⟨j, e1, d1, r1, n1, l1, rfl, h2, h3⟩ := key
    cases i with
    | zero =>
      obtain ⟨tr, fr, q, out, rfl⟩ := h3 hi
      exact ⟨tr, fr, q, out, rfl⟩
    | succ i => exact runT_pure ops h2 i hi
theorem flt_eq {ops : List OP} {l : List Inf} (h : ∀ i, pureAt ops i = true → ∃ tr fr q out, nth l i = some (.op none tr fr q out)) : ∀ ps : List (Nat × Nat), pairsOk l (fltP ops ps) = pairsOk l ps
  | [] => rfl
  | p :: r => by
    simp only [fltP]
    split
    · rename_i h1 h2
      rw [flt_eq h r]
      obtain ⟨t1, f1, q1, o1, e1⟩ := h _ h1
      obtain ⟨t2, f2, q2, o2, e2⟩ := h _ h2
      have : pairOk l p = true := by
        simp only [pairOk, e1, e2, apartI, apart1, apartK]
        rfl
      simp only [pairsOk, this, cond_true]
    · simp only [pairsOk, flt_eq h r]

/-- Regions that write nothing need no order. -/
theorem allP_run {ck : Callk} {b : HP} : ∀ (ops : List OP), allP ops = true → ∀ (e : Env) (d : DM) (n m : Pos), (∃ l e', runT ck b [] ops e d n m = .ok l e' d m ∧ runOps ck b ops e d n = .ok e' d n ∧ ∀ i, i < ops.length → ∃ tr fr q out, nth l i = some (.op none tr fr q out)) ∨ (runT ck b [] ops e d n m = .no ∧ runOps ck b ops e d n = .no)
  | [], _, e, d, n, m => .inl ⟨[], e, rfl, rfl, fun i hi => by cases hi⟩
  | o :: ops, h, e, d, n, m => by
    simp only [allP] at h
    split at h
    · rename_i hp
      cases o with
      | op o al =>
        obtain ⟨rfl, hp⟩ := pureO_op hp
        simp only [runT, runOps, freeO, cond_true, clrR]
        cases hs : stepF e (HP.ov b d).get n o with
        | none => exact .inr ⟨rfl, rfl⟩
        | some p =>
          obtain ⟨out, wr⟩ := p
          have := pure_step hp hs
          subst this
          simp only [okW, cond_true, setW, succIf]
          rcases allP_run ops h (setD e o.dst out) d n m with ⟨l, e', h1, h2, h3⟩ | ⟨h1, h2⟩
          · refine .inl ⟨_, e', by rw [h1]; rfl, h2, fun i hi => ?_⟩
            cases i with
            | zero => exact ⟨_, _, _, _, rfl⟩
            | succ i => exact h3 i (by simpa using hi)
          · exact .inr ⟨by rw [h1]; rfl, h2⟩
      | _ => cases hp
    · cases h
theorem allP_resv (b : HP) : ∀ (ops : List OP), allP ops = true → ∀ (d : DM) (n : Pos), resvD b ops d n = some ([], d, n)
  | [], _, _, _ => rfl
  | o :: ops, h, d, n => by
    simp only [allP] at h
    split at h
    · rename_i hp
      cases o with
      | op o al =>
        obtain ⟨rfl, hp⟩ := pureO_op hp
        exact allP_resv b ops h d n
      | _ => cases hp
    · cases h
theorem allP_at : ∀ (ops : List OP), allP ops = true → ∀ i, i < ops.length → pureAt ops i = true
  | [], _, i, hi => by cases hi
  | o :: ops, h, i, hi => by
    simp only [allP] at h
    split at h
    · rename_i hp
      cases i with
      | zero => exact hp
      | succ i => exact allP_at ops h i (by simpa using hi)
    · cases h

theorem drX_eq (ck : Callk) (fu : Nat) (ops : List OP) (ps : List (Nat × Nat)) (b : HP) (e : Env) (d : DM) (n : Pos) : drX ck ops ps b e d n = exec ck fu (.drawn ops ps) b e d n := rfl
theorem regF_eq (ops : List OP) (f : OpC) (hf : cOs ops = .mk f) (fu : Nat) (ck : Callk) (b : HP) (e : Env) (d : DM) (n : Pos) (k : Kx) : regF f ck fu b e d n k = bX (exec ck fu (.region ops) b e d n) k := by
  rw [cOs_eq] at hf
  injection hf with hf
  subst hf
  simp only [regF, exec]
  cases runOps ck b ops e d n <;> rfl
theorem dFc_gen (ops : List OP) (ps : List (Nat × Nat)) (g : DOps) (hg : dOs ops = .mk g) (fu : Nat) (ck : Callk) (b : HP) (e : Env) (d : DM) (n : Pos) (k : Kx) : drF (alN ops) (fltP ops ps) g ck fu b e d n k = bX (exec ck fu (.drawn ops ps) b e d n) k := by
  rw [dOs_eq] at hg
  injection hg with hg
  subst hg
  simp only [drF, resvK_eq, exec, pksK_eq]
  cases resvD b ops d n with
  | none => rfl
  | some p =>
    obtain ⟨rs, d1, n1⟩ := p
    simp only
    cases hr : runT ck b rs ops e d1 n n1 with
    | no => rfl
    | ok l e' d' n' =>
      simp only
      rw [flt_eq (runT_pure ops hr)]
      cases pairsOk l ps <;> rfl
theorem pairs_all {l : List Inf} {m : Nat} (h : ∀ i, i < m → ∃ tr fr q out, nth l i = some (.op none tr fr q out)) : ∀ ps : List (Nat × Nat), psIn m ps = true → pairsOk l ps = true
  | [], _ => rfl
  | p :: r, hp => by
    simp only [psIn, List.all_cons, Bool.and_eq_true] at hp
    obtain ⟨t1, f1, q1, o1, e1⟩ := h _ (blt_t.1 hp.1.1)
    obtain ⟨t2, f2, q2, o2, e2⟩ := h _ (blt_t.1 hp.1.2)
    have : pairOk l p = true := by
      simp only [pairOk, e1, e2, apartI, apart1, apartK]
      rfl
    simp only [pairsOk, this, cond_true]
    exact pairs_all h r hp.2
theorem dFc_all (ops : List OP) (ps : List (Nat × Nat)) (ha : allP ops = true) (hp : psIn ops.length ps = true) (f : OpC) (hf : cOs ops = .mk f) (fu : Nat) (ck : Callk) (b : HP) (e : Env) (d : DM) (n : Pos) (k : Kx) : regF f ck fu b e d n k = bX (exec ck fu (.drawn ops ps) b e d n) k := by
  rw [regF_eq ops f hf]
  simp only [exec, allP_resv b ops ha]
  rcases allP_run (ck := ck) (b := b) ops ha e d n n with ⟨l, e', h1, h2, h3⟩ | ⟨h1, h2⟩
  · rw [h1, h2]
    simp only [pairs_all h3 ps hp, cond_true]
  · rw [h1, h2]
theorem unBO (x : BO) : ∃ f, x = .mk f := by cases x; exact ⟨_, rfl⟩
theorem unBD (x : BD) : ∃ f, x = .mk f := by cases x; exact ⟨_, rfl⟩
theorem dFc_eq (ops : List OP) (ps : List (Nat × Nat)) : dFc ops ps = .mk (fun ck fu b e d n k => bX (exec ck fu (.drawn ops ps) b e d n) k) := by
  unfold dFc
  split
  · rename_i ha
    simp only [Bool.and_eq_true] at ha
    obtain ⟨f, hf⟩ := unBO (cOs ops)
    rw [hf]
    show BC.mk (regF f) = _
    congr 1
    funext ck fu b e d n k
    exact dFc_all ops ps ha.1 ha.2 f hf fu ck b e d n k
  · obtain ⟨g, hg⟩ := unBD (dOs ops)
    rw [hg]
    show BC.mk (drF (alN ops) (fltP ops ps) g) = _
    congr 1
    funext ck fu b e d n k
    exact dFc_gen ops ps g hg fu ck b e d n k

theorem loopF_eq (f : Clo) (ck : Callk) (fu : Nat) (b : HP) (r : Env → DM → Pos → RX) (hf : ∀ e d n k, f ck fu b e d n k = bX (r e d n) k) (k : Kx) : ∀ (m : Nat) (e : Env) (d : DM) (n : Pos),
    (Nat.rec (motive := fun _ => Env → DM → Pos → RX) (fun _ _ _ => .no) (fun _ ih e d n => f ck fu b e d n fun x e d n => Ex.rec (motive := fun _ => RX) (ih e d n) (fun id => k (.exit id) e d n) (k .ret e d n) x) m : Env → DM → Pos → RX) e d n = bX (loopU r m e d n) k
  | 0, _, _, _ => rfl
  | m + 1, e, d, n => by
    show f ck fu b e d n _ = _
    rw [hf]
    simp only [loopU]
    cases r e d n with
    | no => rfl
    | ok x e' d' n' =>
      cases x with
      | normal => exact loopF_eq f ck fu b r hf k m e' d' n'
      | exit id => rfl
      | ret => rfl
theorem fc_eq : ∀ c : FC, fc c = .mk (fun ck fu b e d n k => bX (exec ck fu c b e d n) k)
  | .skip => rfl
  | .region ops => by
    obtain ⟨f, hf⟩ := unBO (cOs ops)
    show BO.rec (motive := fun _ => BC) (fun f => .mk (regF f)) (cOs ops) = _
    rw [hf]
    show BC.mk (regF f) = _
    congr 1
    funext ck fu b e d n k
    exact regF_eq ops f hf fu ck b e d n k
  | .drawn ops ps => dFc_eq ops ps
  | .seq x y => by
    show c2 seqF (fc x) (fc y) = _
    rw [fc_eq x, fc_eq y]
    show BC.mk _ = _
    congr 1
    funext ck fu b e d n k
    simp only [seqF, exec]
    cases exec ck fu x b e d n with
    | no => rfl
    | ok x' e' d' n' => cases x' <;> rfl
  | .cond c x y => by
    show BG.rec (motive := fun _ => BC) (fun c => c2 (condF c) (fc x) (fc y)) (vB c) = _
    rw [fc_eq x, fc_eq y, vB_eq]
    show BC.mk _ = _
    congr 1
    funext ck fu b e d n k
    simp only [condF, exec, bC_eq]
    generalize valS e c = v
    rcases v with _ | p | l
    · rfl
    · rcases p with c | l
      · cases c with
        | bl t => cases t <;> rfl
        | _ => rfl
      · rfl
    · rfl
  | .block id x => by
    show c1 (blockF id) (fc x) = _
    rw [fc_eq x]
    show BC.mk _ = _
    congr 1
    funext ck fu b e d n k
    simp only [blockF, exec]
    cases exec ck fu x b e d n with
    | no => rfl
    | ok x' e' d' n' =>
      cases x' with
      | normal => rfl
      | ret => rfl
      | exit i =>
        show bC (Nat.beq i id) _ _ = _
        rw [bC_eq]
        simp only
        cases Nat.beq i id <;> rfl
  | .loop x => by
    show c1 loopF (fc x) = _
    rw [fc_eq x]
    show BC.mk _ = _
    congr 1
    funext ck fu b e d n k
    exact loopF_eq (fun ck fu b e d n k => bX (exec ck fu x b e d n) k) ck fu b (exec ck fu x b) (fun _ _ _ _ => rfl) k fu e d n
  | .rloop _ _ _ _ _ => rfl
  | .rng _ _ _ _ => rfl
  | .exit _ => rfl
  | .ret => rfl
  | .bad => rfl

theorem ofA_eq : ∀ (l : List TV) (e : Env) (p : Pos), ofA l e p = ofArgs l p e
  | [], _, _ => rfl
  | a :: l, e, p => by
    show ofA l (BS.rec (motive := fun _ => Env) (fun s => s a e) (sB p)) (sP p) = _
    rw [ofA_eq l, sB_eq, sP_eq]
    rfl
theorem bX_ok (r : RX) : bX r (fun x e d n => .ok x e d n) = r := by cases r <;> rfl
theorem mkR_eq (tb : Tb) (fi : FuncId → Option Fi) (fuel : Nat) : ∀ dp : Nat, mkR tb fi fuel dp = mkT tb fi fuel dp
  | 0 => by
    funext yk b t args d n
    cases t <;> rfl
  | dp + 1 => by
    funext yk b t args d n
    cases t with
    | yld j => rfl
    | fn f =>
      show RC.rec (motive := fun _ => RC) (FJ.rec (motive := fun _ => RC) .no (fun c res nt => Bool.rec (motive := fun _ => RC) .no (retR b res (c (ckOf (mkR tb fi fuel dp) yk) fuel b (ofA args .leaf .e) d n fun x e d n => .ok x e d n)) (Nat.ble (lnT args) nt)) (fj fi f)) (fun v d n => .ok v d n) (tb f b args d n) = _
      rw [mkR_eq tb fi fuel dp]
      simp only [mkT, lnT_eq, ofA_eq]
      cases tb f b args d n with
      | ok v d n => rfl
      | no =>
        simp only [orRC, fj]
        cases fi f with
        | none => rfl
        | some x =>
          simp only
          rw [fc_eq]
          simp only [bX_ok]
          cases Nat.ble args.length x.nt <;> rfl

end Go.Proofs.YtdjhicbhegaenaaGreatDoor.Clo
