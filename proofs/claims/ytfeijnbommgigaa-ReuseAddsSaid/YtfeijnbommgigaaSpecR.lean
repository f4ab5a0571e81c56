/- What the functions of layer 34 compute, in plain Lean. -/
import Derived.Test.YtfeijnbommgigaaAbsW
import Derived.Test.YtfeijnbommgigaaTy
namespace Go.Proofs.Ytfeijnbommgigaa.Abs

abbrev Val := tVal.den
abbrev Rec := tRecord.den
abbrev Alt := tAlt.den
abbrev Reg := tRegion.den
abbrev Drw := tDraw.den

def tt0 : Bool := true
def lenI (l : List Int) : Bool := decide (l.length ≤ LIM)
def orF (l : List Int) : Int := match l.find? (fun n => !decide (n = 0)) with | some n => n | none => 0

/-- Which of two comes first. -/
def icmp (x y : Int) : Int := if x < y then -1 else if y < x then 1 else 0
def scmp (x y : Str) : Int := if Op.bytesLess x y then -1 else if Op.bytesLess y x then 1 else 0
def orElse (a b : Int) : Int := if a = 0 then b else a
def num (b : Bool) : Int := if b then 1 else 0
def rCmpF (a b : Val) : Int := orElse (icmp a.1 b.1) (orElse (icmp (num a.2.1) (num b.2.1)) (orElse (scmp a.2.2.1 b.2.2.1) (icmp a.2.2.2.1 b.2.2.2.1)))
def cmpLF : List Val → List Val → Int
  | [], [] => 0
  | [], _ :: _ => -1
  | _ :: _, [] => 1
  | x :: a, y :: b => orElse (rCmpF x y) (cmpLF a b)
def cmpRF (a b : Rec) : Int := orElse (icmp a.1 b.1) (orElse (icmp a.2.1 b.2.1) (orElse (cmpLF a.2.2.1 b.2.2.1) (rCmpF a.2.2.2.1 b.2.2.2.1)))
def sameR1F (a b : Rec) : Bool := decide (cmpRF a b = 0)
def twoV (a b : List Val) : Bool := decide (a.length ≤ LIM) && decide (b.length ≤ LIM)
def twoR (a b : Rec) : Bool := twoV a.2.2.1 b.2.2.1
def eqVsF (a b : List Val) : Bool := decide (a.length = b.length) && (a.zip b).all (fun p => eqD tVal p.1 p.2)

/-- The number from 0 on. -/
def mod2F (x n : Int) : Int := if n < 1 then 0 else x % n
def mod2G (_ n : Int) : Bool := decide (n ≤ LIM)
def id2F (x n : Int) : Int := (1 + mod2F x 3) * 1048576 + 1 + mod2F (w64 (x.tdiv 3)) n
def id2G (_ n : Int) : Bool := decide (n ≤ LIM)

/-- An ascending list with a further element, each once. -/
def insC {α : Type} (cmp : α → α → Int) (l : List α) (x : α) : List α :=
  let t := l.reverse.dropWhile (fun y => decide (cmp y x > 0))
  match t with
  | [] => x :: l
  | y :: _ => if cmp y x = 0 then l else t.reverse ++ x :: l.drop t.length

def valuesF (l : List Alt) : List Val := l.foldl (fun acc a => insC rCmpF acc a.2.1) []
def lenA (l : List Alt) : Bool := decide (l.length ≤ 1048576)
def allV (_ : Val) : Bool := true
def recOk (r : Rec) : Bool := decide (r.2.2.1.length ≤ LIM)
def insF (l : List Rec) (x : Rec) : List Rec := insC cmpRF l x
def insG (l : List Rec) (x : Rec) : Bool := decide (l.length < LIM) && l.all recOk && recOk x
def addF (a b : List Rec) : List Rec := b.foldl insF (a.foldl insF [])
def addG (a b : List Rec) : Bool := decide (a.length + b.length ≤ 1048576) && a.all recOk && b.all recOk

def findStep (id field : Int) (from_ : List Val) : List Rec → Val → Bool → Val × Bool × Unit
  | [], v, f => (v, f, ())
  | x :: l, v, f => if decide (x.1 = id) && decide (x.2.1 = field) && decide (x.2.2.1 = from_) then
      (if f && !eqD tVal x.2.2.2.1 v then ((0, false, [], 0, ()), false, ()) else findStep id field from_ l x.2.2.2.1 true)
    else findStep id field from_ l v f
def findF (l : List Rec) (r : Reg) : Val × Bool × Unit := if r.1 = 1 then findStep r.2.1 r.2.2.1 (valuesF r.2.2.2.1) l (0, false, [], 0, ()) false else ((0, false, [], 0, ()), false, ())
def findG (l : List Rec) (r : Reg) : Bool := decide (l.length ≤ LIM) && l.all recOk && lenA r.2.2.2.1

def valueF (x : Int) : Val := (mod2F x 2, decide (mod2F (w64 (x.tdiv 2)) 2 = 1), [UInt8.ofNat (97 + mod2F (w64 (x.tdiv 4)) 3).toNat], mod2F (w64 (x.tdiv 12)) 2, ())
def recordF (d : Drw) : Rec := (id2F d.1 1, 3, valuesF (([(0, valueF d.2.1, ()), (0, valueF d.2.2.1, ()), (0, valueF (w64 (d.2.1 + d.2.2.1)), ())] : List Alt).take (2 + mod2F d.1 2).toNat), valueF d.2.2.2.1, ())
def recordsF (l : List Drw) : List Rec := (l.take 20).map recordF
def sameRsF (a b : List Rec) : Bool := decide (a.length = b.length) && (a.zip b).all (fun p => decide (cmpRF p.1 p.2 = 0))
def sameRsG (a b : List Rec) : Bool := decide (a.length ≤ LIM) && decide (b.length ≤ LIM) && a.all recOk && b.all recOk

def ttV (_ _ _ : Val) : Bool := true
def ttD (_ _ _ : List Drw) : Bool := true
def ttF (_ : List Drw) (_ _ _ _ _ : Int) : Bool := true
end Go.Proofs.Ytfeijnbommgigaa.Abs
