/- Plain law: how a text is cut into tokens. No program in sight. -/
import Derived.Test.YtdhjogmkhbpcgaaGreatTok
import Derived.Test.YtdhjogmkhbpcgaaGreatLex1
import Derived.Test.YtdhjogmkhbpcgaaGreatQuote
namespace Go.Proofs.YtdhjogmkhbpcgaaGreat
open Go.RowKit

def signL : List UInt8 := [40, 41, 44, 61, 60, 43, 45, 42]
def signB (c : UInt8) : Bool := decide (0 ≤ Lib.indexByte signL c)
def runB (m : Nat) (f g : UInt8 → Bool) (s : List UInt8) : Bool := decide (1 ≤ s.length) && decide (s.length ≤ m) && (lenRun f g s == s.length)
def oneSign : List UInt8 → Bool
  | [c] => signB c
  | _ => false
/-- May a token be? -/
def mayT (t : Tok) : Bool :=
  if t.k = 3 then mayB 2 0 t.s else if t.k = 4 then oneSign t.s
  else if t.k = 1 then runB 16 letB partB t.s else if t.k = 2 then runB 19 digB digB t.s else false

/-- Where the sign is that ends a text between signs, from a place on; none: nowhere. -/
def endQ : List UInt8 → Nat → Option Nat
  | [], _ => none
  | [c], n => if c.toNat = 39 then some n else none
  | c :: d :: r, n => if c.toNat = 39 then (if d.toNat = 39 then endQ r (n + 2) else some n) else endQ (d :: r) (n + 1)
def quotedT (s : List UInt8) : Tok × Nat := match endQ (s.drop 1) 1 with | none => (⟨0, []⟩, 0) | some n => (⟨3, unquoteS ((s.take n).drop 1)⟩, n + 1)
/-- The token with which a text begins, and how many octets it takes. -/
def firstT (s : List UInt8) : Tok × Nat :=
  if 0 < lenRun letB partB s then (⟨1, s.take (lenRun letB partB s)⟩, lenRun letB partB s)
  else if 0 < lenRun digB digB s then (⟨2, s.take (lenRun digB digB s)⟩, lenRun digB digB s)
  else match s with | [] => (⟨4, []⟩, 1) | c :: r => if c.toNat = 39 then quotedT (c :: r) else (⟨4, [c]⟩, 1)
def blankB (c : UInt8) : Bool := c.toNat == 32 || c.toNat == 10
/-- The tokens of a text, behind those that there are; at most n steps. -/
def cutA : Nat → List UInt8 → List Tok → Option (List Tok)
  | _, [], l => some l
  | 0, _ :: _, _ => none
  | n + 1, c :: r, l => if blankB c then cutA n r l else if mayT (firstT (c :: r)).1 && decide (l.length ≠ 400) then cutA n ((c :: r).drop (firstT (c :: r)).2) (l ++ [(firstT (c :: r)).1]) else none
def cutT (s : List UInt8) : Option (List Tok) := cutA s.length s []

end Go.Proofs.YtdhjogmkhbpcgaaGreat
