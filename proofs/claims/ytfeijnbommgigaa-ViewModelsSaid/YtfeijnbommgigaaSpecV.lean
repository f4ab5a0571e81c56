/- What the functions of layer 27 compute, in plain Lean. -/
import Derived.Test.YtfeijnbommgigaaAbsW
import Derived.Test.YtfeijnbommgigaaTyV
namespace Go.Proofs.Ytfeijnbommgigaa.Abs

abbrev Val := tVal.den
abbrev Alt := tAlt.den
abbrev Slt := tSlot.den
abbrev Sta := tState.den
abbrev Cel := tCell.den
abbrev Mdl := tModel.den
abbrev Reg := tRegion.den
abbrev Stg := tStanding.den
abbrev Mrk := tMark.den

def tt0 : Bool := true
def lenI (l : List Int) : Bool := decide (l.length ≤ LIM)
def orF (l : List Int) : Int := match l.find? (fun n => !decide (n = 0)) with | some n => n | none => 0
def icmp (x y : Int) : Int := if x < y then -1 else if y < x then 1 else 0
def orElse (a b : Int) : Int := if a = 0 then b else a

/-- The number from 0 on. -/
def mod2F (x n : Int) : Int := if n < 1 then 0 else x % n
def mod2G (_ n : Int) : Bool := decide (n ≤ LIM)
def id2F (x n : Int) : Int := (1 + mod2F x 3) * 1048576 + 1 + mod2F (w64 (x.tdiv 3)) n
def id2G (_ n : Int) : Bool := decide (n ≤ LIM)
def value2F (id field stamp : Int) : Val := (mod2F stamp 4, decide (mod2F (w64 (id + stamp)) 3 = 0), [], w64 (mod2F (w64 (field * stamp)) 2 * id), ())
def fields2F (x : Int) : Int := if mod2F x 5 = 0 then 1 else if mod2F x 5 = 1 then 2 else if mod2F x 5 = 2 then 3 else if mod2F x 5 = 3 then 4 else 8 + mod2F (w64 (x.tdiv 5)) 3

def zv : Val := (0, false, [], 0, ())
/-- The first register comes before the second one. -/
def ahd (i f i2 f2 : Int) : Bool := decide (i < i2) || (decide (i = i2) && decide (f < f2))

def twoC (a b : List Cel) : Bool := decide (a.length ≤ 1048577) && decide (b.length ≤ 1048577)
def sameCF (a b : List Cel) : Bool := decide (a.length = b.length) && (a.zip b).all (fun p => eqD tCell p.1 p.2)
def lenA (l : List Alt) : Bool := decide (l.length ≤ 1048576)
def stG (s : Sta) : Bool := decide (s.1.length ≤ 1048576) && s.1.all (fun x => !x.2.2.1.isEmpty && lenA x.2.2.1)
def firstV (x : Slt) : Val := match x.2.2.1 with | a :: _ => a.2.1 | [] => zv
def modelF (s : Sta) : Mdl := ((s.1.filter (fun x => !eqD tVal (firstV x) zv)).map (fun x => (x.1, x.2.1, firstV x, ())), ())
def modG (m : Mdl) : Bool := decide (m.1.length ≤ 1048576)

def withL (id field : Int) (v : Val) : Bool → List Cel → List Cel
  | done, [] => if done then [] else [(id, field, v, ())]
  | done, c :: l => (if !ahd c.1 c.2.1 id field && !done then [(id, field, v, ())] else []) ++ (if decide (c.1 = id) && decide (c.2.1 = field) then [] else [c]) ++ withL id field v (done || !ahd c.1 c.2.1 id field) l
def withF (m : Mdl) (id field : Int) (v : Val) : Mdl := (withL id field v (eqD tVal v zv) m.1, ())
def withG (m : Mdl) (_ _ : Int) (_ : Val) : Bool := modG m

def slotLt (a b : Slt) : Prop := ahd a.1 a.2.1 b.1 b.2.1 = true
instance slotDec (a b : Slt) : Decidable (slotLt a b) := inferInstanceAs (Decidable (_ = true))
def ascS (l : List Slt) : Bool := decide (l.Pairwise slotLt)
def placeG (s : Sta) (_ _ : Int) : Bool := decide (s.1.length ≤ 1048576) && ascS s.1
def before (s : Sta) (id field : Int) : List Slt := s.1.takeWhile (fun x => ahd x.1 x.2.1 id field)
def behind (s : Sta) (id field : Int) : List Slt := s.1.dropWhile (fun x => ahd x.1 x.2.1 id field)
def placeF (s : Sta) (id field : Int) : Int := ((before s id field).length : Int)
def altsF (s : Sta) (id field : Int) : List Alt := match behind s id field with
  | x :: _ => if x.1 = id ∧ x.2.1 = field then x.2.2.1 else []
  | [] => []
def cutR (id field : Int) : List Slt → List Slt
  | x :: r => if x.1 = id ∧ x.2.1 = field then r else x :: r
  | [] => []
def stSetF (s : Sta) (id field : Int) (l : List Alt) : Sta := (before s id field ++ (if l.isEmpty then [] else [(id, field, l, ())]) ++ cutR id field (behind s id field), ())
def setG (s : Sta) (id field : Int) (_ : List Alt) : Bool := placeG s id field
def newAlts (old : List Alt) (id field t : Int) : List Alt := old.takeWhile (fun a => decide (a.1 < t)) ++ [(t, value2F id field t, ())] ++ old.dropWhile (fun a => decide (a.1 < t))
def hasT (old : List Alt) (t : Int) : Bool := match old.dropWhile (fun a => decide (a.1 < t)) with
  | a :: _ => decide (a.1 = t)
  | [] => false
def stStep (s : Sta) (m : Mrk) : Sta :=
  bif hasT (altsF s (id2F m.1 3) (fields2F m.2.1)) (id2F m.2.2.1 4) then s else stSetF s (id2F m.1 3) (fields2F m.2.1) (newAlts (altsF s (id2F m.1 3) (fields2F m.2.1)) (id2F m.1 3) (fields2F m.2.1) (id2F m.2.2.1 4))
def stateF (l : List Mrk) : Sta := (l.take 40).foldl stStep ([], ())

def differF (l : List Alt) : Bool := match l with
  | a :: r => r.any (fun b => !eqD tVal b.2.1 a.2.1)
  | [] => false
def idA (l : List Alt) : List Alt := l
def cloneG (l : List Alt) : Bool := !l.isEmpty && lenA l

def cmpStF (a b : Stg) : Int := orElse (icmp a.1.1 b.1.1) (orElse (icmp a.1.2.1 b.1.2.1) (icmp a.2.1 b.2.1))
def allS (_ : Stg) : Bool := true
def isHome (c : Cel) : Bool := decide (c.2.1 = 2) && !decide (c.2.2.1.2.2.2.1 = 0) && decide (c.2.2.1.1 ≥ 1) && decide (c.2.2.1.1 ≤ 3)
def stOf (c : Cel) : Stg := ((c.2.2.1.2.2.2.1, c.2.2.1.1, ()), c.1, ())
def standL (m : Mdl) : List Stg := (m.1.filter isHome).map stOf
def standF (m : Mdl) : List Stg := sortD cmpStF (standL m)

/-- Those that stand in one place, if there are two. -/
def crowdN : Nat → List Stg → List Reg
  | 0, _ => []
  | _ + 1, [] => []
  | n + 1, x :: r => (if (r.takeWhile (fun y => eqD tPlace y.1 x.1)).isEmpty then [] else [(2, x.1.1, x.1.2.1, [], x.2.1 :: (r.takeWhile (fun y => eqD tPlace y.1 x.1)).map (·.2.1), ())]) ++ crowdN n (r.dropWhile (fun y => eqD tPlace y.1 x.1))
def valuesR (s : Sta) : List Reg := (s.1.filter (fun x => differF x.2.2.1)).map (fun x => (1, x.1, x.2.1, x.2.2.1, [], ()))
def regF (s : Sta) : List Reg := valuesR s ++ crowdN (standF (modelF s)).length (standF (modelF s))
def regVG (s : Sta) : Bool := stG s

def crowdsF (_ : Mdl) : List Reg := []
def crowdG (m : Mdl) : Bool := modG m && decide ((standL m).Pairwise (fun a b => eqD tPlace a.1 b.1 = false))
def regG (s : Sta) : Bool := stG s && crowdG (modelF s)

def twoA (a b : List Alt) : Bool := lenA a && lenA b
def sameAF (a b : List Alt) : Bool := decide (a.length = b.length) && (a.zip b).all (fun p => eqD tAlt p.1 p.2)
def twoI (a b : List Int) : Bool := decide (a.length ≤ 1048576) && decide (b.length ≤ 1048576)
def sameIF (a b : List Int) : Bool := decide (a.length = b.length) && (a.zip b).all (fun p => decide (p.1 = p.2))
def twoReg (a b : Reg) : Bool := twoA a.2.2.2.1 b.2.2.2.1 && twoI a.2.2.2.2.1 b.2.2.2.2.1
def sameRegF (a b : Reg) : Bool := decide (a.1 = b.1) && decide (a.2.1 = b.2.1) && decide (a.2.2.1 = b.2.2.1) && sameAF a.2.2.2.1 b.2.2.2.1 && sameIF a.2.2.2.2.1 b.2.2.2.2.1
def ttS (_ : Sta) : Bool := true
def ttM (_ : List Mrk) (_ _ : Int) (_ : Val) : Bool := true
def ttR (_ : List Mrk) : Bool := true
end Go.Proofs.Ytfeijnbommgigaa.Abs
