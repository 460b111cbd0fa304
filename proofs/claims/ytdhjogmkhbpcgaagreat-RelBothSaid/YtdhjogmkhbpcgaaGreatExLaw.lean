/- What expressions may be, and come to, as plain functions. No program in sight. -/
import Derived.Test.YtdhjogmkhbpcgaaGreatEx
import Derived.Test.YtdhjogmkhbpcgaaGreatLexLaw
import Derived.Test.YtdhjogmkhbpcgaaGreatVal4
namespace Go.Proofs.YtdhjogmkhbpcgaaGreat
open Go.RowKit

def opLit : List UInt8 := [108, 105, 116]
def opCol : List UInt8 := [99, 111, 108]
def opNot : List UInt8 := [110, 111, 116]
def opNull : List UInt8 := [110, 117, 108, 108]
def opAnd : List UInt8 := [97, 110, 100]
def opOr : List UInt8 := [111, 114]
def opEq : List UInt8 := [61]
def opLt : List UInt8 := [60]
def opPlus : List UInt8 := [43]
def opMinus : List UInt8 := [45]
/-- How many parts an Op has; -1: there is no such Op. -/
def partsF (op : List UInt8) : Int :=
  if op = opLit ∨ op = opCol then 0 else if op = opNot ∨ op = opNull then 1
  else if op = opAnd ∨ op = opOr ∨ op = opEq ∨ op = opLt ∨ op = opPlus ∨ op = opMinus then 2 else -1
def words : List (List UInt8) := [[65, 78, 68], [79, 82], [78, 79, 84], [73, 83], [78, 85, 76, 76], [84, 82, 85, 69], [70, 65, 76, 83, 69], [67, 82, 69, 65, 84, 69], [84, 65, 66, 76, 69], [73, 78, 84], [84, 69, 88, 84], [66, 79, 79, 76], [75, 69, 89], [85, 78, 73, 81, 85, 69], [82, 69, 70, 69, 82, 69, 78, 67, 69, 83], [67, 72, 69, 67, 75], [68, 82, 79, 80], [73, 78, 83, 69, 82, 84], [73, 78, 84, 79], [86, 65, 76, 85, 69, 83], [85, 80, 68, 65, 84, 69], [83, 69, 84], [87, 72, 69, 82, 69], [68, 69, 76, 69, 84, 69], [70, 82, 79, 77], [83, 69, 76, 69, 67, 84], [71, 82, 65, 78, 84], [82, 69, 65, 68], [87, 82, 73, 84, 69], [79, 78], [84, 79], [82, 69, 86, 79, 75, 69], [77, 73, 71, 82, 65, 84, 69], [67, 79, 80, 89], [74, 79, 73, 78], [71, 82, 79, 85, 80], [66, 89], [83, 85, 77]]
def reserved (s : List UInt8) : Bool := words.contains s
def nameB (s : List UInt8) : Bool := runB 16 letB partB s
def isZero (v : V) : Bool := decide (v.k = 0) && decide (v.i = 0) && decide (v.s = [])

def mayFold (f : Nat → Ex → Bool × Nat) : Nat → List Ex → Bool × Nat
  | c, [] => (true, c)
  | c, x :: r => if (f c x).1 then mayFold f (f c x).2 r else (false, (f c x).2)
/-- May an expression be, at a depth, if so many nodes there were; how many there are then. -/
def mayE : Nat → Nat → Nat → Ex → Bool × Nat
  | n, d, c, e =>
    if decide (12 < d) || decide (60 < c + 1) || !decide ((e.l.length : Int) = partsF e.op) then (false, c + 1)
    else if e.op = opLit then (decide (e.s = []) && mayB e.v.k e.v.i e.v.s, c + 1)
    else if e.op = opCol then (isZero e.v && nameB e.s && !reserved e.s, c + 1)
    else if !isZero e.v || !decide (e.s = []) then (false, c + 1)
    else match n with
      | 0 => (true, c + 1)
      | n + 1 => mayFold (mayE n (d + 1)) (c + 1) e.l
def may (n : Nat) (e : Ex) : Bool := (mayE n 1 0 e).1

/-- The place of the first column of a name; -1: there is none. -/
def placeFrom (s : List UInt8) : List Col → Nat → Int
  | [], _ => -1
  | c :: r, n => if c.n = s then (n : Int) else placeFrom s r (n + 1)
def placeF (l : List Col) (s : List UInt8) : Int := placeFrom s l 0

def andV (a b : V) : V := truthV (andN (saysF a.k a.i a.s) (saysF b.k b.i b.s))
def orV (a b : V) : V := truthV (orN (saysF a.k a.i a.s) (saysF b.k b.i b.s))
def notV (a : V) : V := truthV (notN (saysF a.k a.i a.s))
def nullV (a : V) : V := bV (decide ((goodV a.k a.i a.s).k = 0))
def doF (op : List UInt8) (a b : V) : V :=
  if op = opAnd then andV a b else if op = opOr then orV a b else if op = opNot then notV a else if op = opEq then equalV a b
  else if op = opLt then lessV a b else if op = opPlus then plusV a b else if op = opMinus then minusV a b else nullV a
/-- What an expression that may be comes to. -/
def evalE : Nat → List Col → List V → Ex → V
  | n, cols, row, e =>
    if e.op = opLit then e.v
    else if e.op = opCol then (if placeF cols e.s < 0 then V.zero else row.getD (placeF cols e.s).toNat V.zero)
    else match n with
      | 0 => doF e.op V.zero V.zero
      | n + 1 => doF e.op (((e.l.map (evalE n cols row))).getD 0 V.zero) ((e.l.map (evalE n cols row)).getD 1 V.zero)
def eval (n : Nat) (cols : List Col) (row : List V) (e : Ex) : V := if may n e then evalE n cols row e else V.zero

/-- The types of parts, up to the first error. -/
def tyFold (f : Ex → Int × Int) : List Ex → List Int → List Int × Int
  | [], l => (l, 0)
  | x :: r, l => if (f x).2 = 0 then tyFold f r (l ++ [(f x).1]) else ([], (f x).2)
def allT (l : List Int) (t : Int) : Bool := l.all fun x => decide (x = t) || decide (x = 0)
def tyOp (cols : List Col) (e : Ex) (l : List Int) : Int × Int :=
  if e.op = opLit then (e.v.k, 0)
  else if e.op = opCol then (if placeF cols e.s < 0 then (0, 4) else ((cols.getD (placeF cols e.s).toNat ⟨[], 0, false⟩).t, 0))
  else if e.op = opNot ∨ e.op = opAnd ∨ e.op = opOr then (if allT l 3 then (3, 0) else (0, 5))
  else if e.op = opEq ∨ e.op = opLt then (if decide (l.getD 0 0 = l.getD 1 0) || decide (l.getD 0 0 = 0) || decide (l.getD 1 0 = 0) then (3, 0) else (0, 5))
  else if e.op = opPlus ∨ e.op = opMinus then (if allT l 1 then (1, 0) else (0, 5))
  else (3, 0)
def typedE : Nat → List Col → Ex → Int × Int
  | n, cols, e => match n with
    | 0 => tyOp cols e []
    | n + 1 => if (tyFold (typedE n cols) e.l []).2 = 0 then tyOp cols e (tyFold (typedE n cols) e.l []).1 else (0, (tyFold (typedE n cols) e.l []).2)
def typeF (n : Nat) (cols : List Col) (e : Ex) : Int × Int := if may n e then typedE n cols e else (0, 1)

end Go.Proofs.YtdhjogmkhbpcgaaGreat
