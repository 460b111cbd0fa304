/- Plain words for expressions (trees) and columns: how they lie in memory. Nothing of the program stands here. What expressions may be, and come to, as plain functions. No program in sight. expr.Reserved, expr.parts, lexer.Name as plain functions. Condition: a text no longer than a million. Plain laws on expressions: those that may be are well made; one step more of height changes nothing; what they come to is a number that fits. No program in sight. -/
import Derived.Test.YtdhjogmkhbpcgaaGreatBase
import Derived.Test.YtdhjogmkhbpcgaaGreatLexAM
import Derived.Test.YtdhjogmkhbpcgaaGreatVal34M
import Derived.Test.YtdhjogmkhbpcgaaGreatLex2
namespace Go.Proofs.YtdhjogmkhbpcgaaGreat
open Go.RowKit

inductive Ex where
  | mk (op : List UInt8) (v : V) (s : List UInt8) (l : List Ex)
def Ex.op : Ex → List UInt8 | .mk o _ _ _ => o
def Ex.v : Ex → V | .mk _ v _ _ => v
def Ex.s : Ex → List UInt8 | .mk _ _ s _ => s
def Ex.l : Ex → List Ex | .mk _ _ _ l => l
theorem Ex.eta (e : Ex) : e = .mk e.op e.v e.s e.l := by cases e; rfl

/-- The six cells of an expression whose parts lie at A. -/
def Ex.cells (e : Ex) (A : Option Addr) (c : Nat) : List Value :=
  [.string ⟨e.op.toArray⟩, .int .i64 e.v.k, .int .i64 e.v.i, .string ⟨e.v.s.toArray⟩, .string ⟨e.s.toArray⟩, .slice A e.l.length c]
/-- Six cells from a place on. -/
def Six (w : World) (b o : Nat) (e : Ex) (A : Option Addr) (c : Nat) : Prop :=
  w.cell? ⟨b, o, none⟩ = some (.string ⟨e.op.toArray⟩) ∧ w.cell? ⟨b, o + 1, none⟩ = some (.int .i64 e.v.k) ∧ w.cell? ⟨b, o + 2, none⟩ = some (.int .i64 e.v.i) ∧
    w.cell? ⟨b, o + 3, none⟩ = some (.string ⟨e.v.s.toArray⟩) ∧ w.cell? ⟨b, o + 4, none⟩ = some (.string ⟨e.s.toArray⟩) ∧ w.cell? ⟨b, o + 5, none⟩ = some (.slice A e.l.length c)
/-- A number that fits, and texts no longer than K. -/
def Ex.fit (K : Nat) (e : Ex) : Prop := (-9223372036854775808 ≤ e.v.i ∧ e.v.i ≤ 9223372036854775807) ∧ e.op.length ≤ K ∧ e.s.length ≤ K ∧ e.v.s.length ≤ K
/-- The slice '.slice A l.length c' reads as the expressions l, of a height of n at the most, and lies, with all that it reaches, below block B. -/
def ExS (K : Nat) : Nat → World → Nat → Option Addr → List Ex → Prop
  | 0, _, _, _, l => l = []
  | n + 1, w, B, A, l => 0 < l.length → ∃ b off, A = some ⟨b, off, none⟩ ∧ b < B ∧ ∀ i e, l[i]? = some e →
      ∃ A' c', e.fit K ∧ e.l.length ≤ c' ∧ c' ≤ maxLen ∧ Six w b (off + i * 6) e A' c' ∧ ExS K n w B A' e.l

theorem Six.keep {w w' : World} {b o : Nat} {e : Ex} {A : Option Addr} {c : Nat} (h : Six w b o e A c) (hk : ∀ o, w'.cell? ⟨b, o, none⟩ = w.cell? ⟨b, o, none⟩) : Six w' b o e A c := by
  obtain ⟨h0, h1, h2, h3, h4, h5⟩ := h
  exact ⟨(hk _).trans h0, (hk _).trans h1, (hk _).trans h2, (hk _).trans h3, (hk _).trans h4, (hk _).trans h5⟩
theorem ExS.nil {K : Nat} {w : World} {B : Nat} {A : Option Addr} : ∀ n, ExS K n w B A []
  | 0 => rfl
  | _ + 1 => fun h => absurd h (by simp)
theorem ExS.below {K : Nat} {w w' : World} {B : Nat} : ∀ (n : Nat) {A : Option Addr} {l : List Ex}, ExS K n w B A l → Below B w w' → ExS K n w' B A l
  | 0, _, _, h, _ => h
  | n + 1, _, _, h, hb => fun hl => by
    obtain ⟨b, off, rfl, hbB, hr⟩ := h hl
    refine ⟨b, off, rfl, hbB, fun i e he => ?_⟩
    obtain ⟨A', c', hf, h1, h2, h3, h4⟩ := hr i e he
    exact ⟨A', c', hf, h1, h2, h3.keep fun o => hb.cell (p := ⟨b, o, none⟩) hbB, h4.below n hb⟩
theorem ExS.more {K : Nat} {w : World} {B B' : Nat} (hB : B ≤ B') : ∀ (n : Nat) {A : Option Addr} {l : List Ex}, ExS K n w B A l → ExS K n w B' A l
  | 0, _, _, h => h
  | n + 1, _, _, h => fun hl => by
    obtain ⟨b, off, rfl, hbB, hr⟩ := h hl
    refine ⟨b, off, rfl, by omega, fun i e he => ?_⟩
    obtain ⟨A', c', hf, h1, h2, h3, h4⟩ := hr i e he
    exact ⟨A', c', hf, h1, h2, h3, h4.more hB n⟩
theorem ExS.up {K : Nat} {w : World} {B : Nat} : ∀ (n : Nat) {A : Option Addr} {l : List Ex}, ExS K n w B A l → ExS K (n + 1) w B A l
  | 0, _, _, h => by cases h; exact ExS.nil 1
  | n + 1, _, _, h => fun hl => by
    obtain ⟨b, off, rfl, hbB, hr⟩ := h hl
    refine ⟨b, off, rfl, hbB, fun i e he => ?_⟩
    obtain ⟨A', c', hf, h1, h2, h3, h4⟩ := hr i e he
    exact ⟨A', c', hf, h1, h2, h3, h4.up n⟩
theorem ExS.ups {K : Nat} {w : World} {B : Nat} {A : Option Addr} {l : List Ex} {n : Nat} (h : ExS K n w B A l) : ∀ m, n ≤ m → ExS K m w B A l
  | 0, hm => by
    have : n = 0 := by omega
    subst this; exact h
  | m + 1, hm => by
    by_cases e : n = m + 1
    · subst e; exact h
    · exact (h.ups m (by omega)).up m
theorem ExS.at_ {K : Nat} {w : World} {B n : Nat} {A : Option Addr} {l : List Ex} (h : ExS K (n + 1) w B A l) {j : Nat} (hj : j < l.length) :
    ∃ b off e A' c', A = some ⟨b, off, none⟩ ∧ b < B ∧ l[j]? = some e ∧ e.fit K ∧ e.l.length ≤ c' ∧ c' ≤ maxLen ∧ Six w b (off + j * 6) e A' c' ∧ ExS K n w B A' e.l := by
  obtain ⟨b, off, rfl, hb, hr⟩ := h (by omega)
  obtain ⟨A', c', hf, h1, h2, h3, h4⟩ := hr j l[j] (List.getElem?_eq_getElem hj)
  exact ⟨b, off, l[j], A', c', rfl, hb, List.getElem?_eq_getElem hj, hf, h1, h2, h3, h4⟩
/-- The expressions of a list are of a height of n at the most. -/
def Hgt : Nat → List Ex → Prop
  | 0, l => l = []
  | n + 1, l => ∀ e ∈ l, Hgt n e.l
theorem Hgt.nil : ∀ n, Hgt n []
  | 0 => rfl
  | _ + 1 => fun _ h => by simp at h
theorem ExS.hgt {K : Nat} {w : World} {B : Nat} : ∀ (n : Nat) {A : Option Addr} {l : List Ex}, ExS K n w B A l → Hgt n l
  | 0, _, _, h => h
  | n + 1, _, l, h => fun e he => by
    obtain ⟨i, hi, rfl⟩ := List.getElem_of_mem he
    obtain ⟨b, off, rfl, _, hr⟩ := h (by omega)
    obtain ⟨A', c', _, _, _, _, h4⟩ := hr i l[i] (List.getElem?_eq_getElem hi)
    exact h4.hgt n
theorem Hgt.up : ∀ (n : Nat) {l : List Ex}, Hgt n l → Hgt (n + 1) l
  | 0, _, h => by cases h; exact Hgt.nil 1
  | n + 1, _, h => fun e he => (h e he).up n

/-- A slice that a call made: ready cells of one or two expressions in a block. -/
theorem exS_one {K : Nat} {w : World} {g n : Nat} {t : TypeId} {e : Ex} {A : Option Addr} {c : Nat} (h : Blk w g t (e.cells A c).toArray) (hf : e.fit K) (h1 : e.l.length ≤ c) (h2 : c ≤ maxLen) (h3 : ExS K n w w.heap.size A e.l) :
    ExS K (n + 1) w w.heap.size (some ⟨g, 0, none⟩) [e] := fun _ => by
  refine ⟨g, 0, rfl, h.lt, fun i x hx => ?_⟩
  match i, hx with
  | 0, hx =>
    simp at hx; subst hx
    exact ⟨A, c, hf, h1, h2, ⟨h.cell 0, h.cell 1, h.cell 2, h.cell 3, h.cell 4, h.cell 5⟩, h3⟩
theorem exS_two {K : Nat} {w : World} {g n : Nat} {t : TypeId} {e e' : Ex} {A A' : Option Addr} {c c' : Nat} (h : Blk w g t (e.cells A c ++ e'.cells A' c').toArray) (hf : e.fit K) (h1 : e.l.length ≤ c) (h2 : c ≤ maxLen) (h3 : ExS K n w w.heap.size A e.l)
    (hf' : e'.fit K) (h1' : e'.l.length ≤ c') (h2' : c' ≤ maxLen) (h3' : ExS K n w w.heap.size A' e'.l) : ExS K (n + 1) w w.heap.size (some ⟨g, 0, none⟩) [e, e'] := fun _ => by
  refine ⟨g, 0, rfl, h.lt, fun i x hx => ?_⟩
  match i, hx with
  | 0, hx =>
    simp at hx; subst hx
    exact ⟨A, c, hf, h1, h2, ⟨h.cell 0, h.cell 1, h.cell 2, h.cell 3, h.cell 4, h.cell 5⟩, h3⟩
  | 1, hx =>
    simp at hx; subst hx
    exact ⟨A', c', hf', h1', h2', ⟨h.cell 6, h.cell 7, h.cell 8, h.cell 9, h.cell 10, h.cell 11⟩, h3'⟩

/-- All blocks but one are as they were; more memory there may be. -/
structure But (p : Nat) (w w' : World) : Prop where
  os : w'.os = w.os
  tape : w'.tape = w.tape
  output : w'.output = w.output
  size : w.heap.size ≤ w'.heap.size
  block : ∀ k, k < w.heap.size → k ≠ p → w'.heap[k]? = w.heap[k]?
theorem But.refl (p : Nat) (w : World) : But p w w := ⟨rfl, rfl, rfl, Nat.le_refl _, fun _ _ _ => rfl⟩
theorem But.trans {p : Nat} {a b c : World} (h : But p a b) (k : But p b c) : But p a c :=
  ⟨k.os.trans h.os, k.tape.trans h.tape, k.output.trans h.output, Nat.le_trans h.size k.size, fun i hi hp => (k.block i (Nat.lt_of_lt_of_le hi h.size) hp).trans (h.block i hi hp)⟩
theorem But.of_below {p : Nat} {w w' : World} (h : Below w.heap.size w w') : But p w w' := ⟨h.os, h.tape, h.output, h.size, fun k hk _ => h.block k hk⟩
theorem But.below {p : Nat} {w w' : World} (h : But p w w') (hp : p ≤ w.heap.size) : Below p w w' := ⟨h.os, h.tape, h.output, h.size, fun k hk => h.block k (by omega) (by omega)⟩
theorem But.blk {p : Nat} {w w' : World} (h : But p w w') {g : Nat} {t : TypeId} {cs : Array Value} (hb : Blk w g t cs) (hg : g ≠ p) : Blk w' g t cs := (h.block g hb.lt hg).trans hb
/-- What a call did to memory that it made itself, all told. -/
theorem But.inside {p : Nat} {w0 w w' : World} (h0 : Below w0.heap.size w0 w) (hp : w0.heap.size ≤ p) (h : But p w w') : Below w0.heap.size w0 w' :=
  ⟨h.os.trans h0.os, h.tape.trans h0.tape, h.output.trans h0.output, Nat.le_trans h0.size h.size, fun k hk => (h.block k (Nat.lt_of_lt_of_le hk h0.size) (by omega)).trans (h0.block k hk)⟩

structure Col where
  n : List UInt8
  t : Int
  b : Bool
def Col.cells (c : Col) : List Value := [.string ⟨c.n.toArray⟩, .int .i64 c.t, .bool c.b]
def ColRow (w : World) (b off : Nat) (l : List Col) : Prop := ∀ i v, l[i]? = some v → w.cell? ⟨b, off + i * 3, none⟩ = some (.string ⟨v.n.toArray⟩) ∧ w.cell? ⟨b, off + i * 3 + 1, none⟩ = some (.int .i64 v.t) ∧ w.cell? ⟨b, off + i * 3 + 2, none⟩ = some (.bool v.b)
def ColS (w : World) (B : Nat) (A : Option Addr) (l : List Col) : Prop := 0 < l.length → ∃ b off, A = some ⟨b, off, none⟩ ∧ b < B ∧ ColRow w b off l
theorem ColS.at_ {w : World} {B : Nat} {A : Option Addr} {l : List Col} (h : ColS w B A l) {j : Nat} (hj : j < l.length) :
    ∃ b off v, A = some ⟨b, off, none⟩ ∧ b < B ∧ l[j]? = some v ∧ w.cell? ⟨b, off + j * 3, none⟩ = some (.string ⟨v.n.toArray⟩) ∧ w.cell? ⟨b, off + j * 3 + 1, none⟩ = some (.int .i64 v.t) ∧ w.cell? ⟨b, off + j * 3 + 2, none⟩ = some (.bool v.b) := by
  obtain ⟨b, off, rfl, hb, hr⟩ := h (by omega)
  have hv : l[j]? = some l[j] := List.getElem?_eq_getElem hj
  obtain ⟨h0, h1, h2⟩ := hr j _ hv
  exact ⟨b, off, l[j], rfl, hb, hv, h0, h1, h2⟩
theorem ColS.below {w w' : World} {B : Nat} {A : Option Addr} {l : List Col} (h : ColS w B A l) (hb : Below B w w') : ColS w' B A l := fun hl => by
  obtain ⟨b, off, rfl, hbB, hr⟩ := h hl
  refine ⟨b, off, rfl, hbB, fun i v hv => ?_⟩
  have hk : ∀ o, w'.cell? ⟨b, o, none⟩ = w.cell? ⟨b, o, none⟩ := fun o => hb.cell (p := ⟨b, o, none⟩) hbB
  obtain ⟨h0, h1, h2⟩ := hr i v hv
  exact ⟨(hk _).trans h0, (hk _).trans h1, (hk _).trans h2⟩
theorem ColS.more {w : World} {B B' : Nat} {A : Option Addr} {l : List Col} (h : ColS w B A l) (hB : B ≤ B') : ColS w B' A l := fun hl => by
  obtain ⟨b, off, rfl, hbB, hr⟩ := h hl
  exact ⟨b, off, rfl, by omega, hr⟩
theorem ColS.nil {w : World} {B : Nat} {A : Option Addr} : ColS w B A [] := fun h => absurd h (by simp)

end Go.Proofs.YtdhjogmkhbpcgaaGreat

namespace Go.Proofs.YtdhjogmkhbpcgaaGreat
open Go.RowKit

def opLit : List UInt8 := [108, 105, 116]
def opCol : List UInt8 := [99, 111, 108]
def opNot : List UInt8 := [110, 111, 116]
def opNull : List UInt8 := [110, 117, 108, 108]
def opAnd : List UInt8 := [97, 110, 100]
def opOr : List UInt8 := [111, 114]
def opEq : List UInt8 := [61]
def opLt : List UInt8 := [60]
def opPlus : List UInt8 := [43]
def opMinus : List UInt8 := [45]
/-- How many parts an Op has; -1: there is no such Op. -/
def partsF (op : List UInt8) : Int :=
  if op = opLit ∨ op = opCol then 0 else if op = opNot ∨ op = opNull then 1
  else if op = opAnd ∨ op = opOr ∨ op = opEq ∨ op = opLt ∨ op = opPlus ∨ op = opMinus then 2 else -1
def words : List (List UInt8) := [[65, 78, 68], [79, 82], [78, 79, 84], [73, 83], [78, 85, 76, 76], [84, 82, 85, 69], [70, 65, 76, 83, 69], [67, 82, 69, 65, 84, 69], [84, 65, 66, 76, 69], [73, 78, 84], [84, 69, 88, 84], [66, 79, 79, 76], [75, 69, 89], [85, 78, 73, 81, 85, 69], [82, 69, 70, 69, 82, 69, 78, 67, 69, 83], [67, 72, 69, 67, 75], [68, 82, 79, 80], [73, 78, 83, 69, 82, 84], [73, 78, 84, 79], [86, 65, 76, 85, 69, 83], [85, 80, 68, 65, 84, 69], [83, 69, 84], [87, 72, 69, 82, 69], [68, 69, 76, 69, 84, 69], [70, 82, 79, 77], [83, 69, 76, 69, 67, 84], [71, 82, 65, 78, 84], [82, 69, 65, 68], [87, 82, 73, 84, 69], [79, 78], [84, 79], [82, 69, 86, 79, 75, 69], [77, 73, 71, 82, 65, 84, 69], [67, 79, 80, 89], [74, 79, 73, 78], [71, 82, 79, 85, 80], [66, 89], [83, 85, 77]]
def reserved (s : List UInt8) : Bool := words.contains s
def nameB (s : List UInt8) : Bool := runB 16 letB partB s
def isZero (v : V) : Bool := decide (v.k = 0) && decide (v.i = 0) && decide (v.s = [])

def mayFold (f : Nat → Ex → Bool × Nat) : Nat → List Ex → Bool × Nat
  | c, [] => (true, c)
  | c, x :: r => if (f c x).1 then mayFold f (f c x).2 r else (false, (f c x).2)
/-- May an expression be, at a depth, if so many nodes there were; how many there are then. -/
def mayE : Nat → Nat → Nat → Ex → Bool × Nat
  | n, d, c, e =>
    if decide (12 < d) || decide (60 < c + 1) || !decide ((e.l.length : Int) = partsF e.op) then (false, c + 1)
    else if e.op = opLit then (decide (e.s = []) && mayB e.v.k e.v.i e.v.s, c + 1)
    else if e.op = opCol then (isZero e.v && nameB e.s && !reserved e.s, c + 1)
    else if !isZero e.v || !decide (e.s = []) then (false, c + 1)
    else match n with
      | 0 => (true, c + 1)
      | n + 1 => mayFold (mayE n (d + 1)) (c + 1) e.l
def may (n : Nat) (e : Ex) : Bool := (mayE n 1 0 e).1

/-- The place of the first column of a name; -1: there is none. -/
def placeFrom (s : List UInt8) : List Col → Nat → Int
  | [], _ => -1
  | c :: r, n => if c.n = s then (n : Int) else placeFrom s r (n + 1)
def placeF (l : List Col) (s : List UInt8) : Int := placeFrom s l 0

def andV (a b : V) : V := truthV (andN (saysF a.k a.i a.s) (saysF b.k b.i b.s))
def orV (a b : V) : V := truthV (orN (saysF a.k a.i a.s) (saysF b.k b.i b.s))
def notV (a : V) : V := truthV (notN (saysF a.k a.i a.s))
def nullV (a : V) : V := bV (decide ((goodV a.k a.i a.s).k = 0))
def doF (op : List UInt8) (a b : V) : V :=
  if op = opAnd then andV a b else if op = opOr then orV a b else if op = opNot then notV a else if op = opEq then equalV a b
  else if op = opLt then lessV a b else if op = opPlus then plusV a b else if op = opMinus then minusV a b else nullV a
/-- What an expression that may be comes to. -/
def evalE : Nat → List Col → List V → Ex → V
  | n, cols, row, e =>
    if e.op = opLit then e.v
    else if e.op = opCol then (if placeF cols e.s < 0 then V.zero else row.getD (placeF cols e.s).toNat V.zero)
    else match n with
      | 0 => doF e.op V.zero V.zero
      | n + 1 => doF e.op (((e.l.map (evalE n cols row))).getD 0 V.zero) ((e.l.map (evalE n cols row)).getD 1 V.zero)
def eval (n : Nat) (cols : List Col) (row : List V) (e : Ex) : V := if may n e then evalE n cols row e else V.zero

/-- The types of parts, up to the first error. -/
def tyFold (f : Ex → Int × Int) : List Ex → List Int → List Int × Int
  | [], l => (l, 0)
  | x :: r, l => if (f x).2 = 0 then tyFold f r (l ++ [(f x).1]) else ([], (f x).2)
def allT (l : List Int) (t : Int) : Bool := l.all fun x => decide (x = t) || decide (x = 0)
def tyOp (cols : List Col) (e : Ex) (l : List Int) : Int × Int :=
  if e.op = opLit then (e.v.k, 0)
  else if e.op = opCol then (if placeF cols e.s < 0 then (0, 4) else ((cols.getD (placeF cols e.s).toNat ⟨[], 0, false⟩).t, 0))
  else if e.op = opNot ∨ e.op = opAnd ∨ e.op = opOr then (if allT l 3 then (3, 0) else (0, 5))
  else if e.op = opEq ∨ e.op = opLt then (if decide (l.getD 0 0 = l.getD 1 0) || decide (l.getD 0 0 = 0) || decide (l.getD 1 0 = 0) then (3, 0) else (0, 5))
  else if e.op = opPlus ∨ e.op = opMinus then (if allT l 1 then (1, 0) else (0, 5))
  else (3, 0)
def typedE : Nat → List Col → Ex → Int × Int
  | n, cols, e => match n with
    | 0 => tyOp cols e []
    | n + 1 => if (tyFold (typedE n cols) e.l []).2 = 0 then tyOp cols e (tyFold (typedE n cols) e.l []).1 else (0, (tyFold (typedE n cols) e.l []).2)
def typeF (n : Nat) (cols : List Col) (e : Ex) : Int × Int := if may n e then typedE n cols e else (0, 1)

end Go.Proofs.YtdhjogmkhbpcgaaGreat

namespace Go.Proofs.YtdhjogmkhbpcgaaGreat
open Go.RowKit

attribute [local go_sem] ByteArray.extract_mk ba_get ba_append
attribute [local go_sem ↓] Go.wp_at_zero Go.wp_at_succ

theorem nameX_any (s : List UInt8) (w : World) (hs : s.length ≤ 1000000) : Calls Tryz.prog 112 #[.string ⟨s.toArray⟩] w (Ret (.bool (nameB s)) w) := by
  go_enter Tryz.func112, Tryz.ntmps112
  go_wp2_with fail
  refine (mayTok_any 1 s w hs).mono ?_
  rintro e w1 ⟨rfl, hb1⟩
  go_wp2_with fail
  go_ret
  exact ⟨rfl, hb1⟩

set_option maxHeartbeats 2000000 in
theorem parts_any (s : List UInt8) (w : World) : Calls Tryz.prog 111 #[.string ⟨s.toArray⟩] w fun e w' => e = .returned (.int .i64 (partsF s)) ∧ w = w' := by
  by_cases hLit : s = opLit
  · subst hLit
    go_enter Tryz.func111, Tryz.ntmps111
    go_wp2
    go_ret
    exact ⟨rfl, rfl⟩
  by_cases hCol : s = opCol
  · subst hCol
    go_enter Tryz.func111, Tryz.ntmps111
    go_wp2
    go_ret
    exact ⟨rfl, rfl⟩
  by_cases hNot : s = opNot
  · subst hNot
    go_enter Tryz.func111, Tryz.ntmps111
    go_wp2
    go_ret
    exact ⟨rfl, rfl⟩
  by_cases hNull : s = opNull
  · subst hNull
    go_enter Tryz.func111, Tryz.ntmps111
    go_wp2
    go_ret
    exact ⟨rfl, rfl⟩
  by_cases hAnd : s = opAnd
  · subst hAnd
    go_enter Tryz.func111, Tryz.ntmps111
    go_wp2
    go_ret
    exact ⟨rfl, rfl⟩
  by_cases hOr : s = opOr
  · subst hOr
    go_enter Tryz.func111, Tryz.ntmps111
    go_wp2
    go_ret
    exact ⟨rfl, rfl⟩
  by_cases hEq : s = opEq
  · subst hEq
    go_enter Tryz.func111, Tryz.ntmps111
    go_wp2
    go_ret
    exact ⟨rfl, rfl⟩
  by_cases hLt : s = opLt
  · subst hLt
    go_enter Tryz.func111, Tryz.ntmps111
    go_wp2
    go_ret
    exact ⟨rfl, rfl⟩
  by_cases hPlus : s = opPlus
  · subst hPlus
    go_enter Tryz.func111, Tryz.ntmps111
    go_wp2
    go_ret
    exact ⟨rfl, rfl⟩
  by_cases hMinus : s = opMinus
  · subst hMinus
    go_enter Tryz.func111, Tryz.ntmps111
    go_wp2
    go_ret
    exact ⟨rfl, rfl⟩
  have HP : Hid (partsF s = -1) := by show _ = _; simp [partsF, hLit, hCol, hNot, hNull, hAnd, hOr, hEq, hLt, hPlus, hMinus]
  have eLit : (s == [108, 105, 116]) = false := by rw [beq_eq_false_iff_ne]; exact hLit
  have gLit : ¬ s = [108, 105, 116] := hLit
  have eCol : (s == [99, 111, 108]) = false := by rw [beq_eq_false_iff_ne]; exact hCol
  have gCol : ¬ s = [99, 111, 108] := hCol
  have eNot : (s == [110, 111, 116]) = false := by rw [beq_eq_false_iff_ne]; exact hNot
  have gNot : ¬ s = [110, 111, 116] := hNot
  have eNull : (s == [110, 117, 108, 108]) = false := by rw [beq_eq_false_iff_ne]; exact hNull
  have gNull : ¬ s = [110, 117, 108, 108] := hNull
  have eAnd : (s == [97, 110, 100]) = false := by rw [beq_eq_false_iff_ne]; exact hAnd
  have gAnd : ¬ s = [97, 110, 100] := hAnd
  have eOr : (s == [111, 114]) = false := by rw [beq_eq_false_iff_ne]; exact hOr
  have gOr : ¬ s = [111, 114] := hOr
  have eEq : (s == [61]) = false := by rw [beq_eq_false_iff_ne]; exact hEq
  have gEq : ¬ s = [61] := hEq
  have eLt : (s == [60]) = false := by rw [beq_eq_false_iff_ne]; exact hLt
  have gLt : ¬ s = [60] := hLt
  have ePlus : (s == [43]) = false := by rw [beq_eq_false_iff_ne]; exact hPlus
  have gPlus : ¬ s = [43] := hPlus
  have eMinus : (s == [45]) = false := by rw [beq_eq_false_iff_ne]; exact hMinus
  have gMinus : ¬ s = [45] := hMinus
  rw [HP.out]
  clear HP hLit hCol hNot hNull hAnd hOr hEq hLt hPlus hMinus
  go_enter Tryz.func111, Tryz.ntmps111
  go_wp2
  go_ret
  exact ⟨rfl, rfl⟩

set_option maxRecDepth 100000 in
set_option maxHeartbeats 4000000 in
theorem reserved_any (s : List UInt8) (w : World) : Calls Tryz.prog 113 #[.string ⟨s.toArray⟩] w (RetB (reserved s) w) := by
  cases hr : reserved s
  · have hn : ¬ s ∈ words := by
      intro h
      have : reserved s = true := by unfold reserved; exact List.contains_iff_mem.2 h
      rw [this] at hr; cases hr
    have g0 : ¬ s = [65, 78, 68] := fun h => hn (by subst h; decide)
    have e0 : (s == [65, 78, 68]) = false := by rw [beq_eq_false_iff_ne]; exact g0
    have g1 : ¬ s = [79, 82] := fun h => hn (by subst h; decide)
    have e1 : (s == [79, 82]) = false := by rw [beq_eq_false_iff_ne]; exact g1
    have g2 : ¬ s = [78, 79, 84] := fun h => hn (by subst h; decide)
    have e2 : (s == [78, 79, 84]) = false := by rw [beq_eq_false_iff_ne]; exact g2
    have g3 : ¬ s = [73, 83] := fun h => hn (by subst h; decide)
    have e3 : (s == [73, 83]) = false := by rw [beq_eq_false_iff_ne]; exact g3
    have g4 : ¬ s = [78, 85, 76, 76] := fun h => hn (by subst h; decide)
    have e4 : (s == [78, 85, 76, 76]) = false := by rw [beq_eq_false_iff_ne]; exact g4
    have g5 : ¬ s = [84, 82, 85, 69] := fun h => hn (by subst h; decide)
    have e5 : (s == [84, 82, 85, 69]) = false := by rw [beq_eq_false_iff_ne]; exact g5
    have g6 : ¬ s = [70, 65, 76, 83, 69] := fun h => hn (by subst h; decide)
    have e6 : (s == [70, 65, 76, 83, 69]) = false := by rw [beq_eq_false_iff_ne]; exact g6
    have g7 : ¬ s = [67, 82, 69, 65, 84, 69] := fun h => hn (by subst h; decide)
    have e7 : (s == [67, 82, 69, 65, 84, 69]) = false := by rw [beq_eq_false_iff_ne]; exact g7
    have g8 : ¬ s = [84, 65, 66, 76, 69] := fun h => hn (by subst h; decide)
    have e8 : (s == [84, 65, 66, 76, 69]) = false := by rw [beq_eq_false_iff_ne]; exact g8
    have g9 : ¬ s = [73, 78, 84] := fun h => hn (by subst h; decide)
    have e9 : (s == [73, 78, 84]) = false := by rw [beq_eq_false_iff_ne]; exact g9
    have g10 : ¬ s = [84, 69, 88, 84] := fun h => hn (by subst h; decide)
    have e10 : (s == [84, 69, 88, 84]) = false := by rw [beq_eq_false_iff_ne]; exact g10
    have g11 : ¬ s = [66, 79, 79, 76] := fun h => hn (by subst h; decide)
    have e11 : (s == [66, 79, 79, 76]) = false := by rw [beq_eq_false_iff_ne]; exact g11
    have g12 : ¬ s = [75, 69, 89] := fun h => hn (by subst h; decide)
    have e12 : (s == [75, 69, 89]) = false := by rw [beq_eq_false_iff_ne]; exact g12
    have g13 : ¬ s = [85, 78, 73, 81, 85, 69] := fun h => hn (by subst h; decide)
    have e13 : (s == [85, 78, 73, 81, 85, 69]) = false := by rw [beq_eq_false_iff_ne]; exact g13
    have g14 : ¬ s = [82, 69, 70, 69, 82, 69, 78, 67, 69, 83] := fun h => hn (by subst h; decide)
    have e14 : (s == [82, 69, 70, 69, 82, 69, 78, 67, 69, 83]) = false := by rw [beq_eq_false_iff_ne]; exact g14
    have g15 : ¬ s = [67, 72, 69, 67, 75] := fun h => hn (by subst h; decide)
    have e15 : (s == [67, 72, 69, 67, 75]) = false := by rw [beq_eq_false_iff_ne]; exact g15
    have g16 : ¬ s = [68, 82, 79, 80] := fun h => hn (by subst h; decide)
    have e16 : (s == [68, 82, 79, 80]) = false := by rw [beq_eq_false_iff_ne]; exact g16
    have g17 : ¬ s = [73, 78, 83, 69, 82, 84] := fun h => hn (by subst h; decide)
    have e17 : (s == [73, 78, 83, 69, 82, 84]) = false := by rw [beq_eq_false_iff_ne]; exact g17
    have g18 : ¬ s = [73, 78, 84, 79] := fun h => hn (by subst h; decide)
    have e18 : (s == [73, 78, 84, 79]) = false := by rw [beq_eq_false_iff_ne]; exact g18
    have g19 : ¬ s = [86, 65, 76, 85, 69, 83] := fun h => hn (by subst h; decide)
    have e19 : (s == [86, 65, 76, 85, 69, 83]) = false := by rw [beq_eq_false_iff_ne]; exact g19
    have g20 : ¬ s = [85, 80, 68, 65, 84, 69] := fun h => hn (by subst h; decide)
    have e20 : (s == [85, 80, 68, 65, 84, 69]) = false := by rw [beq_eq_false_iff_ne]; exact g20
    have g21 : ¬ s = [83, 69, 84] := fun h => hn (by subst h; decide)
    have e21 : (s == [83, 69, 84]) = false := by rw [beq_eq_false_iff_ne]; exact g21
    have g22 : ¬ s = [87, 72, 69, 82, 69] := fun h => hn (by subst h; decide)
    have e22 : (s == [87, 72, 69, 82, 69]) = false := by rw [beq_eq_false_iff_ne]; exact g22
    have g23 : ¬ s = [68, 69, 76, 69, 84, 69] := fun h => hn (by subst h; decide)
    have e23 : (s == [68, 69, 76, 69, 84, 69]) = false := by rw [beq_eq_false_iff_ne]; exact g23
    have g24 : ¬ s = [70, 82, 79, 77] := fun h => hn (by subst h; decide)
    have e24 : (s == [70, 82, 79, 77]) = false := by rw [beq_eq_false_iff_ne]; exact g24
    have g25 : ¬ s = [83, 69, 76, 69, 67, 84] := fun h => hn (by subst h; decide)
    have e25 : (s == [83, 69, 76, 69, 67, 84]) = false := by rw [beq_eq_false_iff_ne]; exact g25
    have g26 : ¬ s = [71, 82, 65, 78, 84] := fun h => hn (by subst h; decide)
    have e26 : (s == [71, 82, 65, 78, 84]) = false := by rw [beq_eq_false_iff_ne]; exact g26
    have g27 : ¬ s = [82, 69, 65, 68] := fun h => hn (by subst h; decide)
    have e27 : (s == [82, 69, 65, 68]) = false := by rw [beq_eq_false_iff_ne]; exact g27
    have g28 : ¬ s = [87, 82, 73, 84, 69] := fun h => hn (by subst h; decide)
    have e28 : (s == [87, 82, 73, 84, 69]) = false := by rw [beq_eq_false_iff_ne]; exact g28
    have g29 : ¬ s = [79, 78] := fun h => hn (by subst h; decide)
    have e29 : (s == [79, 78]) = false := by rw [beq_eq_false_iff_ne]; exact g29
    have g30 : ¬ s = [84, 79] := fun h => hn (by subst h; decide)
    have e30 : (s == [84, 79]) = false := by rw [beq_eq_false_iff_ne]; exact g30
    have g31 : ¬ s = [82, 69, 86, 79, 75, 69] := fun h => hn (by subst h; decide)
    have e31 : (s == [82, 69, 86, 79, 75, 69]) = false := by rw [beq_eq_false_iff_ne]; exact g31
    have g32 : ¬ s = [77, 73, 71, 82, 65, 84, 69] := fun h => hn (by subst h; decide)
    have e32 : (s == [77, 73, 71, 82, 65, 84, 69]) = false := by rw [beq_eq_false_iff_ne]; exact g32
    have g33 : ¬ s = [67, 79, 80, 89] := fun h => hn (by subst h; decide)
    have e33 : (s == [67, 79, 80, 89]) = false := by rw [beq_eq_false_iff_ne]; exact g33
    have g34 : ¬ s = [74, 79, 73, 78] := fun h => hn (by subst h; decide)
    have e34 : (s == [74, 79, 73, 78]) = false := by rw [beq_eq_false_iff_ne]; exact g34
    have g35 : ¬ s = [71, 82, 79, 85, 80] := fun h => hn (by subst h; decide)
    have e35 : (s == [71, 82, 79, 85, 80]) = false := by rw [beq_eq_false_iff_ne]; exact g35
    have g36 : ¬ s = [66, 89] := fun h => hn (by subst h; decide)
    have e36 : (s == [66, 89]) = false := by rw [beq_eq_false_iff_ne]; exact g36
    have g37 : ¬ s = [83, 85, 77] := fun h => hn (by subst h; decide)
    have e37 : (s == [83, 85, 77]) = false := by rw [beq_eq_false_iff_ne]; exact g37
    clear hn hr
    go_enter Tryz.func113, Tryz.ntmps113
    go_wp2
    go_ret
    exact ⟨rfl, rfl⟩
  · have hm : s ∈ words := by unfold reserved at hr; exact List.contains_iff_mem.1 hr
    simp only [words, List.mem_cons, List.not_mem_nil, or_false] at hm
    clear hr
    rcases hm with rfl | rfl | rfl | rfl | rfl | rfl | rfl | rfl | rfl | rfl | rfl | rfl | rfl | rfl | rfl | rfl | rfl | rfl | rfl | rfl | rfl | rfl | rfl | rfl | rfl | rfl | rfl | rfl | rfl | rfl | rfl | rfl | rfl | rfl | rfl | rfl | rfl | rfl
    all_goals
      go_enter Tryz.func113, Tryz.ntmps113
      go_wp2
      go_ret
      exact ⟨rfl, rfl⟩

end Go.Proofs.YtdhjogmkhbpcgaaGreat

namespace Go.Proofs.YtdhjogmkhbpcgaaGreat
open Go.RowKit

/-- An expression whose Ops have their parts. -/
def okE : Nat → Ex → Prop
  | n, e => (e.l.length : Int) = partsF e.op ∧ (e.op = opLit ∨ e.op = opCol ∨ match n with | 0 => True | n + 1 => ∀ x ∈ e.l, okE n x)
theorem fold_all (f : Nat → Ex → Bool × Nat) : ∀ (l : List Ex) (c : Nat), (mayFold f c l).1 = true → ∀ x ∈ l, ∃ c', (f c' x).1 = true
  | [], _, _ => fun x hx => by simp at hx
  | y :: r, c, h => fun x hx => by
    unfold mayFold at h
    split at h
    · rename_i hy
      rcases List.mem_cons.1 hx with rfl | hx
      · exact ⟨c, hy⟩
      · exact fold_all f r _ h x hx
    · cases h
theorem mayE_ok : ∀ (n d c : Nat) (e : Ex), (mayE n d c e).1 = true → okE n e := by
  intro n
  induction n with
  | zero =>
    intro d c e h
    unfold mayE at h
    split at h
    · cases h
    · rename_i h1
      simp only [Bool.or_eq_true, Bool.not_eq_true', decide_eq_true_eq, decide_eq_false_iff_not, not_or, Decidable.not_not] at h1
      unfold okE
      exact ⟨h1.2, .inr (.inr trivial)⟩
  | succ n ih =>
    intro d c e h
    unfold mayE at h
    split at h
    · cases h
    · rename_i h1
      simp only [Bool.or_eq_true, Bool.not_eq_true', decide_eq_true_eq, decide_eq_false_iff_not, not_or, Decidable.not_not] at h1
      unfold okE
      refine ⟨h1.2, ?_⟩
      split at h
      · left; assumption
      · split at h
        · right; left; assumption
        · split at h
          · cases h
          · right; right
            intro x hx
            obtain ⟨c', hc⟩ := fold_all _ _ _ h x hx
            exact ih _ _ x hc
theorem evalE_up (cols : List Col) (row : List V) : ∀ (n : Nat) (e : Ex), Hgt n e.l → evalE (n + 1) cols row e = evalE n cols row e := by
  intro n
  induction n with
  | zero =>
    intro e h
    have hl : e.l = [] := h
    simp [evalE, hl]
  | succ n ih =>
    intro e h
    have hm : e.l.map (evalE (n + 1) cols row) = e.l.map (evalE n cols row) := List.map_congr_left fun x hx => ih x (h x hx)
    unfold evalE
    simp only [hm]
theorem evalE_ups (cols : List Col) (row : List V) (n : Nat) (e : Ex) (h : Hgt n e.l) : ∀ m, n ≤ m → evalE m cols row e = evalE n cols row e
  | 0, hm => by
    have : n = 0 := by omega
    subst this; rfl
  | m + 1, hm => by
    by_cases he : n = m + 1
    · subst he; rfl
    · have hk : ∀ k, n ≤ k → Hgt k e.l := fun k hk => by
        induction k with
        | zero =>
          have : n = 0 := by omega
          subst this; exact h
        | succ k ih =>
          by_cases hc : n = k + 1
          · subst hc; exact h
          · exact (ih (by omega)).up k
      rw [evalE_up cols row m e (hk m (by omega)), evalE_ups cols row n e h m (by omega)]
def fitI (i : Int) : Prop := -9223372036854775808 ≤ i ∧ i ≤ 9223372036854775807
theorem truthV_in {n : Int} (h : n = 0 ∨ n = 1 ∨ n = 2) : fitI (truthV n).i := by
  rcases h with rfl | rfl | rfl <;> simp [truthV, V.zero, fitI]
theorem bV_in (b : Bool) : fitI (bV b).i := by cases b <;> simp [bV, fitI]
theorem zero_in : fitI V.zero.i := by simp [V.zero, fitI]
theorem andN_range (x y : Int) : andN x y = 0 ∨ andN x y = 1 ∨ andN x y = 2 := by unfold andN; split <;> (try split) <;> simp
theorem orN_range (x y : Int) : orN x y = 0 ∨ orN x y = 1 ∨ orN x y = 2 := by unfold orN; split <;> (try split) <;> simp
theorem notN_range (x : Int) : notN x = 0 ∨ notN x = 1 ∨ notN x = 2 := by unfold notN; split <;> (try split) <;> simp
theorem doF_in (op : List UInt8) (a b : V) : fitI (doF op a b).i := by
  unfold doF
  split
  · exact truthV_in (andN_range _ _)
  · split
    · exact truthV_in (orN_range _ _)
    · split
      · exact truthV_in (notN_range _)
      · split
        · unfold equalV; split
          · exact bV_in _
          · exact zero_in
        · split
          · unfold lessV; split
            · exact bV_in _
            · exact zero_in
          · split
            · unfold plusV; split
              · rename_i h
                simp only [Bool.and_eq_true, fits, decide_eq_true_eq] at h
                exact h.2
              · exact zero_in
            · split
              · unfold minusV; split
                · rename_i h
                  simp only [Bool.and_eq_true, fits, decide_eq_true_eq] at h
                  exact h.2
                · exact zero_in
              · exact bV_in _
theorem evalE_in (n : Nat) (cols : List Col) (row : List V) (e : Ex) (he : fitI e.v.i) (hr : ∀ x ∈ row, fitI x.i) : fitI (evalE n cols row e).i := by
  unfold evalE
  split
  · exact he
  · split
    · split
      · exact zero_in
      · rw [List.getD_eq_getElem?_getD]
        cases hg : row[(placeF cols e.s).toNat]? with
        | none => exact zero_in
        | some x => exact hr x (List.mem_of_getElem? hg)
    · cases n with
      | zero => exact doF_in _ _ _
      | succ n => exact doF_in _ _ _

end Go.Proofs.YtdhjogmkhbpcgaaGreat
