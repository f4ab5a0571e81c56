/- What the functions of layers 12 and 24 compute, in plain Lean. -/
import Derived.Test.YtlipfgaambiklaaAbsB
import Derived.Test.YtlipfgaambiklaaTy
namespace Go.Proofs.Ytlipfgaambiklaa.Abs

abbrev Cell := tCell.den
abbrev Val := tVal.den

/-- The order of registers. -/
def ltC (a b : Cell) : Bool := decide (a.1 < b.1) || (decide (a.1 = b.1) && decide (a.2.1 < b.2.1))
def sameC (a b : Cell) : Bool := decide (a.1 = b.1) && decide (a.2.1 = b.2.1)
def idOk (n : Int) : Bool := decide (1048576 < n) && decide (n < 34603008) && !decide (n % 1048576 = 0)
def okC (c : Cell) : Bool := idOk c.1 && decide (1 ≤ c.2.1) && decide (c.2.1 < 48)
def zVal : Val := (0, false, [], 0, ())
def nz (c : Cell) : Bool := !eqD tVal c.2.2.1 zVal

/-- Lists of writes, behind a cell. -/
def wr : Option Cell → List Cell → Bool
  | _, [] => true
  | p, c :: r => okC c && (match p with | none => true | some q => ltC q c) && wr (some c) r

def writesF (l : List Cell) : Bool := wr none l
def validF (l : List Cell) : Bool := l.all nz && writesF l
def lenG (l : List Cell) : Bool := decide (l.length ≤ LIM)

/-- The cells of two lists of writes; of one register that of the second one. -/
def overF : Nat → List Cell → List Cell → List Cell
  | 0, _, _ => []
  | _ + 1, [], b => b
  | _ + 1, a, [] => a
  | n + 1, x :: a, y :: b => if ltC x y then x :: overF n a (y :: b) else if sameC x y then y :: overF n a b else y :: overF n (x :: a) b

def over (a b : List Cell) : List Cell := overF (a.length + b.length + 1) a b
def putF (l w : List Cell) : List Cell := if validF l && writesF w then (over l w).filter nz else []
def putG (l w : List Cell) : Bool := decide (l.length + w.length ≤ LIM)

def shared (b : List Cell) (x : Cell) : Bool := b.any (sameC · x)
def getV (l : List Cell) (x : Cell) : Val := match l.find? (sameC · x) with | some c => c.2.2.1 | none => zVal

def twoW (a b : List Cell) : Bool := writesF a && writesF b
def indepF (a b : List Cell) : Bool := twoW a b && !a.any (shared b)
def composeF (a b : List Cell) : List Cell := if twoW a b then over a b else []
def restF (a b : List Cell) : List Cell := if twoW a b then a.filter (fun x => !shared b x) else []
abbrev Model := tModel.den
def inverseF (m : Model) (w : List Cell) : List Cell := if validF m.1 && writesF w then w.map (fun y => (y.1, y.2.1, getV m.1 y, ())) else []
def leastF (m : Model) (w : List Cell) : List Cell := if validF m.1 && writesF w then w.filter (fun y => !eqD tVal y.2.2.1 (getV m.1 y)) else []
def twoG (a b : List Cell) : Bool := decide (a.length + b.length ≤ LIM)
def modG (m : Model) (b : List Cell) : Bool := decide (m.1.length + b.length ≤ LIM)
/-- The reference's own functions. -/
def getF (l : List Cell) (i f : Int) : Val := getV l (i, f, zVal, ())
def getG (l : List Cell) (_ _ : Int) : Bool := lenG l
def overG (a b : List Cell) : Bool := writesF a && writesF b && twoG a b
def sameF (a b : List Cell) : Bool := decide (a.length = b.length) && (a.zip b).all (fun p => eqD tCell p.1 p.2)
def sharedF (b : List Cell) (x : Cell) : Bool := shared b x
def hasG (b : List Cell) (_ : Cell) : Bool := lenG b
def modF (n m : Int) : Int := n % m
def modIG (_ m : Int) : Bool := decide (0 < m) && decide (m ≤ LIM)

/-- The laws' answers and premises: always true. -/
def tt0 : Bool := true
def tt2 (_ _ : List Cell) : Bool := true
def tt2m (_ : Model) (_ : List Cell) : Bool := true
def tt3m (_ : Model) (_ _ : List Cell) : Bool := true
def tt4m (_ : Model) (_ _ _ : List Cell) : Bool := true
def tt3i (_ : Model) (_ : List Cell) (_ : Int) : Bool := true
end Go.Proofs.Ytlipfgaambiklaa.Abs
