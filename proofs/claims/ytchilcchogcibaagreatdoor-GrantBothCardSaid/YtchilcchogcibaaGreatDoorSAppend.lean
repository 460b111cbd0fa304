/- Plain words for expressions (trees) and columns; Plain law; What expressions may be, and come to, as plain functions; Plain laws on expressions; Plain laws on expressions; Plain; append onto a row of the call's own, from a slice of values that may be nil. -/
import Derived.Maps.AppendAt
import Derived.Deep.AppendLies
import Derived.Test.YtchilcchogcibaaGreatDoorSLex1
import Derived.Test.YtchilcchogcibaaGreatDoorSMay
import Derived.Test.YtchilcchogcibaaGreatDoorSStage2
namespace Go.Proofs.YtchilcchogcibaaGreatDoor
open Go.RowKit
inductive Ex where
 | mk (op : List UInt8) (v : V) (s : List UInt8) (l : List Ex)
def Ex.op : Ex → List UInt8 | .mk o _ _ _ => o
def Ex.v : Ex → V | .mk _ v _ _ => v
def Ex.s : Ex → List UInt8 | .mk _ _ s _ => s
def Ex.l : Ex → List Ex | .mk _ _ _ l => l
theorem Ex.eta (e : Ex) : e = .mk e.op e.v e.s e.l := by cases e; rfl
/-- The six cells of an expression whose parts lie at A. -/
def Ex.cells (e : Ex) (A : Option Addr) (c : Nat) : List Value :=
 [.string ⟨e.op.toArray⟩, .int .i64 e.v.k, .int .i64 e.v.i, .string ⟨e.v.s.toArray⟩, .string ⟨e.s.toArray⟩, .slice A e.l.length c]
/-- Six cells from a place on. -/
def Six (w : World) (b o : Nat) (e : Ex) (A : Option Addr) (c : Nat) : Prop :=
 w.cell? ⟨b, o, none⟩ = some (.string ⟨e.op.toArray⟩) ∧ w.cell? ⟨b, o + 1, none⟩ = some (.int .i64 e.v.k) ∧ w.cell? ⟨b, o + 2, none⟩ = some (.int .i64 e.v.i) ∧
  w.cell? ⟨b, o + 3, none⟩ = some (.string ⟨e.v.s.toArray⟩) ∧ w.cell? ⟨b, o + 4, none⟩ = some (.string ⟨e.s.toArray⟩) ∧ w.cell? ⟨b, o + 5, none⟩ = some (.slice A e.l.length c)
/-- A number that fits, and texts no longer than K. -/
def Ex.fit (K : Nat) (e : Ex) : Prop := (-9223372036854775808 ≤ e.v.i ∧ e.v.i ≤ 9223372036854775807) ∧ e.op.length ≤ K ∧ e.s.length ≤ K ∧ e.v.s.length ≤ K
/-- The slice '.slice A l.length c' reads as the expressions l, of a height of n at the most, and lies, with all that it reaches, below block B. -/
def ExS (K : Nat) : Nat → World → Nat → Option Addr → List Ex → Prop
 | 0, _, _, _, l => l = []
 | n + 1, w, B, A, l => 0 < l.length → ∃ b off, A = some ⟨b, off, none⟩ ∧ b < B ∧ ∀ i e, l[i]? = some e →
   ∃ A' c', e.fit K ∧ e.l.length ≤ c' ∧ c' ≤ maxLen ∧ Six w b (off + i * 6) e A' c' ∧ ExS K n w B A' e.l
theorem Six.keep {w w' : World} {b o : Nat} {e : Ex} {A : Option Addr} {c : Nat} (h : Six w b o e A c) (hk : ∀ o, w'.cell? ⟨b, o, none⟩ = w.cell? ⟨b, o, none⟩) : Six w' b o e A c := by
 obtain ⟨h0, h1, h2, h3, h4, h5⟩ := h
 exact ⟨(hk _).trans h0, (hk _).trans h1, (hk _).trans h2, (hk _).trans h3, (hk _).trans h4, (hk _).trans h5⟩
theorem ExS.nil {K : Nat} {w : World} {B : Nat} {A : Option Addr} : ∀ n, ExS K n w B A []
 | 0 => rfl
 | _ + 1 => fun h => absurd h (by simp)
theorem ExS.below {K : Nat} {w w' : World} {B : Nat} : ∀ (n : Nat) {A : Option Addr} {l : List Ex}, ExS K n w B A l → Below B w w' → ExS K n w' B A l
 | 0, _, _, h, _ => h
 | n + 1, _, _, h, hb => fun hl => by
  obtain ⟨b, off, rfl, hbB, hr⟩ := h hl
  refine ⟨b, off, rfl, hbB, fun i e he => ?_⟩
  obtain ⟨A', c', hf, h1, h2, h3, h4⟩ := hr i e he
  exact ⟨A', c', hf, h1, h2, h3.keep fun o => hb.cell (p := ⟨b, o, none⟩) hbB, h4.below n hb⟩
theorem ExS.more {K : Nat} {w : World} {B B' : Nat} (hB : B ≤ B') : ∀ (n : Nat) {A : Option Addr} {l : List Ex}, ExS K n w B A l → ExS K n w B' A l
 | 0, _, _, h => h
 | n + 1, _, _, h => fun hl => by
  obtain ⟨b, off, rfl, hbB, hr⟩ := h hl
  refine ⟨b, off, rfl, by omega, fun i e he => ?_⟩
  obtain ⟨A', c', hf, h1, h2, h3, h4⟩ := hr i e he
  exact ⟨A', c', hf, h1, h2, h3, h4.more hB n⟩
theorem ExS.up {K : Nat} {w : World} {B : Nat} : ∀ (n : Nat) {A : Option Addr} {l : List Ex}, ExS K n w B A l → ExS K (n + 1) w B A l
 | 0, _, _, h => by cases h; exact ExS.nil 1
 | n + 1, _, _, h => fun hl => by
  obtain ⟨b, off, rfl, hbB, hr⟩ := h hl
  refine ⟨b, off, rfl, hbB, fun i e he => ?_⟩
  obtain ⟨A', c', hf, h1, h2, h3, h4⟩ := hr i e he
  exact ⟨A', c', hf, h1, h2, h3, h4.up n⟩
theorem ExS.ups {K : Nat} {w : World} {B : Nat} {A : Option Addr} {l : List Ex} {n : Nat} (h : ExS K n w B A l) : ∀ m, n ≤ m → ExS K m w B A l
 | 0, hm => by
  have : n = 0 := by omega
  subst this; exact h
 | m + 1, hm => by
  by_cases e : n = m + 1
  ·subst e; exact h
  ·exact (h.ups m (by omega)).up m
theorem ExS.at_ {K : Nat} {w : World} {B n : Nat} {A : Option Addr} {l : List Ex} (h : ExS K (n + 1) w B A l) {j : Nat} (hj : j < l.length) :
  ∃ b off e A' c', A = some ⟨b, off, none⟩ ∧ b < B ∧ l[j]? = some e ∧ e.fit K ∧ e.l.length ≤ c' ∧ c' ≤ maxLen ∧ Six w b (off + j * 6) e A' c' ∧ ExS K n w B A' e.l := by
 obtain ⟨b, off, rfl, hb, hr⟩ := h (by omega)
 obtain ⟨A', c', hf, h1, h2, h3, h4⟩ := hr j l[j] (List.getElem?_eq_getElem hj)
 exact ⟨b, off, l[j], A', c', rfl, hb, List.getElem?_eq_getElem hj, hf, h1, h2, h3, h4⟩
/-- The expressions of a list are of a height of n at the most. -/
def Hgt : Nat → List Ex → Prop
 | 0, l => l = []
 | n + 1, l => ∀ e ∈ l, Hgt n e.l
theorem Hgt.nil : ∀ n, Hgt n []
 | 0 => rfl
 | _ + 1 => fun _ h => by simp at h
theorem ExS.hgt {K : Nat} {w : World} {B : Nat} : ∀ (n : Nat) {A : Option Addr} {l : List Ex}, ExS K n w B A l → Hgt n l
 | 0, _, _, h => h
 | n + 1, _, l, h => fun e he => by
  obtain ⟨i, hi, rfl⟩ := List.getElem_of_mem he
  obtain ⟨b, off, rfl, _, hr⟩ := h (by omega)
  obtain ⟨A', c', _, _, _, _, h4⟩ := hr i l[i] (List.getElem?_eq_getElem hi)
  exact h4.hgt n
theorem Hgt.up : ∀ (n : Nat) {l : List Ex}, Hgt n l → Hgt (n + 1) l
 | 0, _, h => by cases h; exact Hgt.nil 1
 | n + 1, _, h => fun e he => (h e he).up n
/-- All blocks but one are as they were; more memory there may be. -/
structure But (p : Nat) (w w' : World) : Prop where
 os : w'.os = w.os
 tape : w'.tape = w.tape
 output : w'.output = w.output
 size : w.heap.size ≤ w'.heap.size
 block : ∀ k, k < w.heap.size → k ≠ p → w'.heap[k]? = w.heap[k]?
theorem But.refl (p : Nat) (w : World) : But p w w := ⟨rfl, rfl, rfl, Nat.le_refl _, fun _ _ _ => rfl⟩
theorem But.trans {p : Nat} {a b c : World} (h : But p a b) (k : But p b c) : But p a c :=
 ⟨k.os.trans h.os, k.tape.trans h.tape, k.output.trans h.output, Nat.le_trans h.size k.size, fun i hi hp => (k.block i (Nat.lt_of_lt_of_le hi h.size) hp).trans (h.block i hi hp)⟩
theorem But.of_below {p : Nat} {w w' : World} (h : Below w.heap.size w w') : But p w w' := ⟨h.os, h.tape, h.output, h.size, fun k hk _ => h.block k hk⟩
theorem But.below {p : Nat} {w w' : World} (h : But p w w') (hp : p ≤ w.heap.size) : Below p w w' := ⟨h.os, h.tape, h.output, h.size, fun k hk => h.block k (by omega) (by omega)⟩
theorem But.blk {p : Nat} {w w' : World} (h : But p w w') {g : Nat} {t : TypeId} {cs : Array Value} (hb : Blk w g t cs) (hg : g ≠ p) : Blk w' g t cs := (h.block g hb.lt hg).trans hb
/-- What a call did to memory that it made itself, all told. -/
theorem But.inside {p : Nat} {w0 w w' : World} (h0 : Below w0.heap.size w0 w) (hp : w0.heap.size ≤ p) (h : But p w w') : Below w0.heap.size w0 w' :=
 ⟨h.os.trans h0.os, h.tape.trans h0.tape, h.output.trans h0.output, Nat.le_trans h0.size h.size, fun k hk => (h.block k (Nat.lt_of_lt_of_le hk h0.size) (by omega)).trans (h0.block k hk)⟩
structure Col where
 n : List UInt8
 t : Int
 b : Bool
def Col.cells (c : Col) : List Value := [.string ⟨c.n.toArray⟩, .int .i64 c.t, .bool c.b]
def ColRow (w : World) (b off : Nat) (l : List Col) : Prop := ∀ i v, l[i]? = some v → w.cell? ⟨b, off + i * 3, none⟩ = some (.string ⟨v.n.toArray⟩) ∧ w.cell? ⟨b, off + i * 3 + 1, none⟩ = some (.int .i64 v.t) ∧ w.cell? ⟨b, off + i * 3 + 2, none⟩ = some (.bool v.b)
def ColS (w : World) (B : Nat) (A : Option Addr) (l : List Col) : Prop := 0 < l.length → ∃ b off, A = some ⟨b, off, none⟩ ∧ b < B ∧ ColRow w b off l
theorem ColS.at_ {w : World} {B : Nat} {A : Option Addr} {l : List Col} (h : ColS w B A l) {j : Nat} (hj : j < l.length) :
  ∃ b off v, A = some ⟨b, off, none⟩ ∧ b < B ∧ l[j]? = some v ∧ w.cell? ⟨b, off + j * 3, none⟩ = some (.string ⟨v.n.toArray⟩) ∧ w.cell? ⟨b, off + j * 3 + 1, none⟩ = some (.int .i64 v.t) ∧ w.cell? ⟨b, off + j * 3 + 2, none⟩ = some (.bool v.b) := by
 obtain ⟨b, off, rfl, hb, hr⟩ := h (by omega)
 have hv : l[j]? = some l[j] := List.getElem?_eq_getElem hj
 obtain ⟨h0, h1, h2⟩ := hr j _ hv
 exact ⟨b, off, l[j], rfl, hb, hv, h0, h1, h2⟩
theorem ColS.below {w w' : World} {B : Nat} {A : Option Addr} {l : List Col} (h : ColS w B A l) (hb : Below B w w') : ColS w' B A l := fun hl => by
 obtain ⟨b, off, rfl, hbB, hr⟩ := h hl
 refine ⟨b, off, rfl, hbB, fun i v hv => ?_⟩
 have hk : ∀ o, w'.cell? ⟨b, o, none⟩ = w.cell? ⟨b, o, none⟩ := fun o => hb.cell (p := ⟨b, o, none⟩) hbB
 obtain ⟨h0, h1, h2⟩ := hr i v hv
 exact ⟨(hk _).trans h0, (hk _).trans h1, (hk _).trans h2⟩
theorem ColS.more {w : World} {B B' : Nat} {A : Option Addr} {l : List Col} (h : ColS w B A l) (hB : B ≤ B') : ColS w B' A l := fun hl => by
 obtain ⟨b, off, rfl, hbB, hr⟩ := h hl
 exact ⟨b, off, rfl, by omega, hr⟩
theorem ColS.nil {w : World} {B : Nat} {A : Option Addr} : ColS w B A [] := fun h => absurd h (by simp)
def signL : List UInt8 := [40, 41, 44, 61, 60, 43, 45, 42]
def signB (c : UInt8) : Bool := decide (0 ≤ Lib.indexByte signL c)
def runB (m : Nat) (f g : UInt8 → Bool) (s : List UInt8) : Bool := decide (1 ≤ s.length) && decide (s.length ≤ m) && (lenRun f g s == s.length)
def oneSign : List UInt8 → Bool
 | [c] => signB c
 | _ => false
/-- May a token be? -/
def mayT (t : Tok) : Bool :=
 if t.k = 3 then mayB 2 0 t.s else if t.k = 4 then oneSign t.s
 else if t.k = 1 then runB 16 letB partB t.s else if t.k = 2 then runB 19 digB digB t.s else false
/-- Where the sign is that ends a text between signs, from a place on; none: nowhere. -/
def endQ : List UInt8 → Nat → Option Nat
 | [], _ => none
 | [c], n => if c.toNat = 39 then some n else none
 | c :: d :: r, n => if c.toNat = 39 then (if d.toNat = 39 then endQ r (n + 2) else some n) else endQ (d :: r) (n + 1)
def quotedT (s : List UInt8) : Tok × Nat := match endQ (s.drop 1) 1 with | none => (⟨0, []⟩, 0) | some n => (⟨3, unquoteS ((s.take n).drop 1)⟩, n + 1)
/-- The token with which a text begins, and how many octets it takes. -/
def firstT (s : List UInt8) : Tok × Nat :=
 if 0 < lenRun letB partB s then (⟨1, s.take (lenRun letB partB s)⟩, lenRun letB partB s)
 else if 0 < lenRun digB digB s then (⟨2, s.take (lenRun digB digB s)⟩, lenRun digB digB s)
 else match s with | [] => (⟨4, []⟩, 1) | c :: r => if c.toNat = 39 then quotedT (c :: r) else (⟨4, [c]⟩, 1)
def blankB (c : UInt8) : Bool := c.toNat == 32 || c.toNat == 10
/-- The tokens of a text, behind those that there are; at most n steps. -/
def cutA : Nat → List UInt8 → List Tok → Option (List Tok)
 | _, [], l => some l
 | 0, _ :: _, _ => none
 | n + 1, c :: r, l => if blankB c then cutA n r l else if mayT (firstT (c :: r)).1 && decide (l.length ≠ 400) then cutA n ((c :: r).drop (firstT (c :: r)).2) (l ++ [(firstT (c :: r)).1]) else none
def cutT (s : List UInt8) : Option (List Tok) := cutA s.length s []
def opLit : List UInt8 := [108, 105, 116]
def opCol : List UInt8 := [99, 111, 108]
def opNot : List UInt8 := [110, 111, 116]
def opNull : List UInt8 := [110, 117, 108, 108]
def opAnd : List UInt8 := [97, 110, 100]
def opOr : List UInt8 := [111, 114]
def opEq : List UInt8 := [61]
def opLt : List UInt8 := [60]
def opPlus : List UInt8 := [43]
def opMinus : List UInt8 := [45]
/-- How many parts an Op has; -1: there is no such Op. -/
def partsF (op : List UInt8) : Int :=
 if op = opLit ∨ op = opCol then 0 else if op = opNot ∨ op = opNull then 1
 else if op = opAnd ∨ op = opOr ∨ op = opEq ∨ op = opLt ∨ op = opPlus ∨ op = opMinus then 2 else -1
def words : List (List UInt8) := [[65, 78, 68], [79, 82], [78, 79, 84], [73, 83], [78, 85, 76, 76], [84, 82, 85, 69], [70, 65, 76, 83, 69], [67, 82, 69, 65, 84, 69], [84, 65, 66, 76, 69], [73, 78, 84], [84, 69, 88, 84], [66, 79, 79, 76], [75, 69, 89], [85, 78, 73, 81, 85, 69], [82, 69, 70, 69, 82, 69, 78, 67, 69, 83], [67, 72, 69, 67, 75], [68, 82, 79, 80], [73, 78, 83, 69, 82, 84], [73, 78, 84, 79], [86, 65, 76, 85, 69, 83], [85, 80, 68, 65, 84, 69], [83, 69, 84], [87, 72, 69, 82, 69], [68, 69, 76, 69, 84, 69], [70, 82, 79, 77], [83, 69, 76, 69, 67, 84], [71, 82, 65, 78, 84], [82, 69, 65, 68], [87, 82, 73, 84, 69], [79, 78], [84, 79], [82, 69, 86, 79, 75, 69], [77, 73, 71, 82, 65, 84, 69], [67, 79, 80, 89], [74, 79, 73, 78], [71, 82, 79, 85, 80], [66, 89], [83, 85, 77]]
def reserved (s : List UInt8) : Bool := words.contains s
def nameB (s : List UInt8) : Bool := runB 16 letB partB s
def isZero (v : V) : Bool := decide (v.k = 0) && decide (v.i = 0) && decide (v.s = [])
def mayFold (f : Nat → Ex → Bool × Nat) : Nat → List Ex → Bool × Nat
 | c, [] => (true, c)
 | c, x :: r => if (f c x).1 then mayFold f (f c x).2 r else (false, (f c x).2)
/-- May an expression be, at a depth, if so many nodes there were; how many there are then. -/
def mayE : Nat → Nat → Nat → Ex → Bool × Nat
 | n, d, c, e =>
  if decide (12 < d) || decide (60 < c + 1) || !decide ((e.l.length : Int) = partsF e.op) then (false, c + 1)
  else if e.op = opLit then (decide (e.s = []) && mayB e.v.k e.v.i e.v.s, c + 1)
  else if e.op = opCol then (isZero e.v && nameB e.s && !reserved e.s, c + 1)
  else if !isZero e.v || !decide (e.s = []) then (false, c + 1)
  else match n with
   | 0 => (true, c + 1)
   | n + 1 => mayFold (mayE n (d + 1)) (c + 1) e.l
def may (n : Nat) (e : Ex) : Bool := (mayE n 1 0 e).1
/-- The place of the first column of a name; -1: there is none. -/
def placeFrom (s : List UInt8) : List Col → Nat → Int
 | [], _ => -1
 | c :: r, n => if c.n = s then (n : Int) else placeFrom s r (n + 1)
def placeF (l : List Col) (s : List UInt8) : Int := placeFrom s l 0
def andV (a b : V) : V := truthV (andN (saysF a.k a.i a.s) (saysF b.k b.i b.s))
def orV (a b : V) : V := truthV (orN (saysF a.k a.i a.s) (saysF b.k b.i b.s))
def notV (a : V) : V := truthV (notN (saysF a.k a.i a.s))
def nullV (a : V) : V := bV (decide ((goodV a.k a.i a.s).k = 0))
def doF (op : List UInt8) (a b : V) : V :=
 if op = opAnd then andV a b else if op = opOr then orV a b else if op = opNot then notV a else if op = opEq then equalV a b
 else if op = opLt then lessV a b else if op = opPlus then plusV a b else if op = opMinus then minusV a b else nullV a
/-- What an expression that may be comes to. -/
def evalE : Nat → List Col → List V → Ex → V
 | n, cols, row, e =>
  if e.op = opLit then e.v
  else if e.op = opCol then (if placeF cols e.s < 0 then V.zero else row.getD (placeF cols e.s).toNat V.zero)
  else match n with
   | 0 => doF e.op V.zero V.zero
   | n + 1 => doF e.op (((e.l.map (evalE n cols row))).getD 0 V.zero) ((e.l.map (evalE n cols row)).getD 1 V.zero)
def eval (n : Nat) (cols : List Col) (row : List V) (e : Ex) : V := if may n e then evalE n cols row e else V.zero
def fitI (i : Int) : Prop := -9223372036854775808 ≤ i ∧ i ≤ 9223372036854775807
theorem mayFold_congr {f g : Nat → Ex → Bool × Nat} : ∀ (l : List Ex) (c : Nat), (∀ x ∈ l, ∀ c, f c x = g c x) → mayFold f c l = mayFold g c l
 | [], _, _ => rfl
 | x :: r, c, h => by
  unfold mayFold
  rw [h x (by simp) c, mayFold_congr r _ (fun y hy => h y (by simp [hy]))]
theorem mayE_fuel : ∀ (n m d c : Nat) (e : Ex), 13 ≤ n + d → 13 ≤ m + d → mayE n d c e = mayE m d c e := by
 intro n
 induction n with
 | zero =>
  intro m d c e h1 h2
  unfold mayE
  simp [show 12 < d by omega]
 | succ n ih =>
  intro m d c e h1 h2
  by_cases hd : 12 < d
  ·unfold mayE
   simp [hd]
  ·cases m with
   | zero => omega
   | succ m =>
    unfold mayE
    simp only [mayFold_congr e.l (c + 1) (fun x _ c' => ih m (d + 1) c' x (by omega) (by omega))]
theorem mayE_up : ∀ (n d c : Nat) (e : Ex), Hgt n e.l → mayE (n + 1) d c e = mayE n d c e := by
 intro n
 induction n with
 | zero =>
  intro d c e h
  have hl : e.l = [] := h
  unfold mayE
  rw [hl]
  rfl
 | succ n ih =>
  intro d c e h
  unfold mayE
  simp only [mayFold_congr e.l (c + 1) (fun x hx c' => ih (d + 1) c' x (h x hx))]
theorem Hgt.upTo {n : Nat} {l : List Ex} (h : Hgt n l) : ∀ m, n ≤ m → Hgt m l
 | 0, hm => by
  have : n = 0 := by omega
  subst this; exact h
 | m + 1, hm => by
  by_cases he : n = m + 1
  ·subst he; exact h
  ·exact (h.upTo m (by omega)).up m
theorem mayE_ups (d c : Nat) (e : Ex) (n : Nat) (h : Hgt n e.l) : ∀ m, n ≤ m → mayE m d c e = mayE n d c e
 | 0, hm => by
  have : n = 0 := by omega
  subst this; rfl
 | m + 1, hm => by
  by_cases he : n = m + 1
  ·subst he; rfl
  ·rw [mayE_up m d c e (h.upTo m (by omega)), mayE_ups d c e n h m (by omega)]
def mayX (e : Ex) : Bool := may 12 e
theorem may_X (n : Nat) (e : Ex) (h : Hgt n e.l) : may n e = mayX e := by
 unfold may mayX may
 rw [← mayE_ups 1 0 e n h (max n 12) (Nat.le_max_left _ _), mayE_fuel (max n 12) 12 1 0 e (by omega) (by omega)]
/-- An expression in a row: itself, and where its parts lie. -/
structure ExC where
 e : Ex
 A : Option Addr
 c : Nat
def ExC.cells (r : ExC) : List Value := r.e.cells r.A r.c
theorem ExC.cells_length (r : ExC) : r.cells.length = 6 := rfl
def ExC.good (K n : Nat) (w : World) (r : ExC) : Prop := r.e.fit K ∧ r.e.l.length ≤ r.c ∧ r.c ≤ maxLen ∧ ExS K n w w.heap.size r.A r.e.l
theorem ExC.good.below {K n : Nat} {w w' : World} {r : ExC} (h : r.good K n w) (hb : Below w.heap.size w w') : r.good K n w' := ⟨h.1, h.2.1, h.2.2.1, (h.2.2.2.below n hb).more hb.size n⟩
theorem exc_at : ∀ (l : List ExC) (i j : Nat) (v : ExC), l[i]? = some v → j < 6 → (l.flatMap ExC.cells)[i * 6 + j]? = v.cells[j]? := by
 intro l
 induction l with
 | nil => intro i j v h; simp at h
 | cons x r ih =>
  intro i j v h hj
  cases i with
  | zero =>
   simp at h; subst h
   rw [List.flatMap_cons, List.getElem?_append_left (by rw [ExC.cells_length]; omega)]
   simp
  | succ i =>
   rw [List.flatMap_cons, List.getElem?_append_right (by rw [ExC.cells_length]; omega), ExC.cells_length]
   have e : (i + 1) * 6 + j - 6 = i * 6 + j := by omega
   rw [e]
   exact ih i j v (by simpa using h) hj
theorem exc_len (l : List ExC) : (l.flatMap ExC.cells).length = l.length * 6 := by
 induction l with
 | nil => rfl
 | cons x r ih => rw [List.flatMap_cons, List.length_append, ih, ExC.cells_length, List.length_cons]; omega
theorem ExS.own {K m : Nat} {w : World} {base : Nat} {e : TypeId} {sv : Value} {n : Nat} {l : List ExC} (h : w.ownsRow base e 6 sv n (l.flatMap ExC.cells)) (hg : ∀ r ∈ l, r.good K m w) :
  ∃ A c, sv = .slice A (l.map ExC.e).length c ∧ (l.map ExC.e).length ≤ c ∧ c ≤ maxLen ∧ ExS K (m + 1) w w.heap.size A (l.map ExC.e) := by
 have hn : l.length = n := by have := h.1; rw [exc_len] at this; omega
 rw [List.length_map]
 rcases h.2 with ⟨rfl, h0⟩ | ⟨g, cap, cur, rfl, hb, hgg, hnc, hcm, hcs, htk⟩
 ·have hl : l = [] := List.eq_nil_of_length_eq_zero (by omega)
  subst hl
  exact ⟨none, 0, rfl, Nat.le_refl _, Nat.zero_le _, ExS.nil _⟩
 ·refine ⟨some ⟨g, 0, none⟩, cap, by rw [hn], by omega, hcm, fun _ => ⟨g, 0, rfl, (Array.getElem?_eq_some_iff.1 hgg).1, ?_⟩⟩
  intro i x hx
  rw [List.getElem?_map, Option.map_eq_some_iff] at hx
  obtain ⟨r, hr, rfl⟩ := hx
  obtain ⟨h1, h2, h3, h4⟩ := hg r (List.mem_of_getElem? hr)
  have hc := h.cells (g := g) rfl
  have key : ∀ j u, j < 6 → r.cells[j]? = some u → w.cell? ⟨g, 0 + i * 6 + j, none⟩ = some u := by
   intro j u hj hu
   have := hc (i * 6 + j) u (by rw [exc_at l i j r hr hj]; exact hu)
   rw [add_mid] at this
   rw [Nat.add_assoc]
   exact this
  exact ⟨r.A, r.c, h1, h2, h3, ⟨key 0 _ (by omega) rfl, key 1 _ (by omega) rfl, key 2 _ (by omega) rfl, key 3 _ (by omega) rfl, key 4 _ (by omega) rfl, key 5 _ (by omega) rfl⟩, h4⟩
def Reads (w : World) (B size : Nat) (A : Option Addr) (n : Nat) (xs : List Value) : Prop :=
 xs.length = n * size ∧ (0 < n → ∃ ad, A = some ad ∧ ad.block < B ∧ ∀ j u, xs[j]? = some u → w.cell? (ad.add j) = some u)
section
variable {P : Program} (w : World)
theorem run_append_of_nil (base : Nat) (t ty e : TypeId) (i : TypeInfo) (size : Nat) (ht : P.underlying t = some (.slice e)) (hi : P.info? e = some i)
  (v : Value) (n : Nat) (xs : List Value) (hown : w.ownsRow base e size v n xs) (c : Nat) : (Builtin.append_ #[t, t] ty #[v, .slice none 0 c]).run P w = .ok v w := by
 rcases hown.2 with ⟨rfl, rfl⟩ | ⟨g, cap, cur, rfl, _, _, hnc, _⟩
 ·simp [Builtin.append_, run_underlying ht, sizeOf, typeInfo, hi, Builtin.lenOf, Builtin.firstCells]
 ·simp [Builtin.append_, run_underlying ht, sizeOf, typeInfo, hi, Builtin.lenOf, Builtin.firstCells, hnc, storeCells]
theorem run_append_any (base : Nat) (t ty e : TypeId) (i : TypeInfo) (z : Value) (size bytes : Nat) (ht : P.underlying t = some (.slice e)) (hi : P.info? e = some i) (hz : i.zero = some z)
  (hsize : i.size = size) (hby : i.bytes = bytes) (hzs : z.cells.size = size) (hsz : 0 < size)
  (v : Value) (n : Nat) (xs : List Value) (hown : w.ownsRow base e size v n xs)
  (B : Nat) (A : Option Addr) (m c : Nat) (news : List Value) (hr : Reads w B size A m news) (h1 : ∀ u ∈ news, u.oneCell' = true)
  (h63 : n + m ≤ maxLen) (hbytes : (n + m) * bytes ≤ 140737488355328) (hbase : base ≤ w.heap.size) :
  ∃ v' w', (Builtin.append_ #[t, t] ty #[v, .slice A m c]).run P w = .ok v' w' ∧ w'.ownsRow base e size v' (n + m) (xs ++ news) ∧ w.grownBy w' v.ownBlock ∧
   (v'.ownBlock = v.ownBlock ∨ v'.ownBlock = some w.heap.size) := by
 rcases A with _ | ad
 ·have hm : m = 0 := by
   rcases Nat.eq_zero_or_pos m with h0 | h0
   ·exact h0
   ·obtain ⟨ad, h, _⟩ := hr.2 h0
    cases h
  subst hm
  have hn : news = [] := List.eq_nil_of_length_eq_zero (by simpa using hr.1)
  subst hn
  exact ⟨v, w, run_append_of_nil w base t ty e i size ht hi v n xs hown c, by simpa using hown, World.grownBy.refl w _, .inl rfl⟩
 ·have hcells : ∀ j u, news[j]? = some u → w.cell? (ad.add j) = some u := by
   intro j u hu
   rcases Nat.eq_zero_or_pos m with h0 | h0
   ·subst h0
    have hn : news = [] := List.eq_nil_of_length_eq_zero (by simpa using hr.1)
    subst hn
    simp at hu
   ·obtain ⟨ad', h, _, hc⟩ := hr.2 h0
    injection h with h
    subst h
    exact hc j u hu
  obtain ⟨v', w', hrun, h2, h3, _, h5⟩ := run_append_own_at (P := P) w base t ty e i z size bytes ht hi hz hsize hby hzs hsz v n xs hown ad m c news hr.1 hcells h1 h63 hbytes hbase
  exact ⟨v', w', hrun, h2, h3, h5⟩
theorem wp_append_any {o : Oper} {a : Act} {K : Act → World → Prop} {Q : Exit → Act → World → Prop} (s x : Operand) (t : TypeId)
  (ho : o.op = .call { callee := .builtin .append, args := #[s, x], argTypes := #[t, t] })
  (base : Nat) (e : TypeId) (i : TypeInfo) (z : Value) (size bytes : Nat) (ht : P.underlying t = some (.slice e)) (hi : P.info? e = some i) (hz : i.zero = some z)
  (hsize : i.size = size) (hby : i.bytes = bytes) (hzs : z.cells.size = size) (hsz : 0 < size)
  (v : Value) (n : Nat) (xs : List Value) (hs : a.eval s = v) (hown : w.ownsRow base e size v n xs)
  (B : Nat) (A : Option Addr) (m c : Nat) (news : List Value) (hx : a.eval x = .slice A m c) (hr : Reads w B size A m news) (h1 : ∀ u ∈ news, u.oneCell' = true)
  (h63 : n + m ≤ maxLen) (hbytes : (n + m) * bytes ≤ 140737488355328) (hbase : base ≤ w.heap.size)
  (h : ∀ v' w', w'.ownsRow base e size v' (n + m) (xs ++ news) → w.grownBy w' v.ownBlock → (v'.ownBlock = v.ownBlock ∨ v'.ownBlock = some w.heap.size) → K (a.put o.dst v') w') : o.wp P a w K Q := by
 obtain ⟨v', w', hrun, h2, h3, h4⟩ := run_append_any (P := P) w base t o.type e i z size bytes ht hi hz hsize hby hzs hsz v n xs hown B A m c news hr h1 h63 hbytes hbase
 unfold Oper.wp execOp
 simp only [ho, resolve, invoke, builtin, Sem.run_bind, Sem.run_pure, Result.andThen_ok, List.map_toArray, List.map_cons, List.map_nil, hs, hx, hrun]
 exact h v' w' h2 h3 h4
theorem wpList_append_any {ops : Array Oper} {rest : List Oper} {o : Oper} {a : Act} {Q : Exit → Act → World → Prop} (hgd : o.guard = none) (s x : Operand) (t : TypeId)
  (ho : o.op = .call { callee := .builtin .append, args := #[s, x], argTypes := #[t, t] })
  (base : Nat) (e : TypeId) (i : TypeInfo) (z : Value) (size bytes : Nat) (ht : P.underlying t = some (.slice e)) (hi : P.info? e = some i) (hz : i.zero = some z)
  (hsize : i.size = size) (hby : i.bytes = bytes) (hzs : z.cells.size = size) (hsz : 0 < size)
  (v : Value) (n : Nat) (xs : List Value) (hs : a.eval s = v) (hown : w.ownsRow base e size v n xs)
  (B : Nat) (A : Option Addr) (m c : Nat) (news : List Value) (hx : a.eval x = .slice A m c) (hr : Reads w B size A m news) (h1 : ∀ u ∈ news, u.oneCell' = true)
  (h63 : n + m ≤ maxLen) (hbytes : (n + m) * bytes ≤ 140737488355328) (hbase : base ≤ w.heap.size)
  (h : ∀ v' w', w'.ownsRow base e size v' (n + m) (xs ++ news) → w.grownBy w' v.ownBlock → (v'.ownBlock = v.ownBlock ∨ v'.ownBlock = some w.heap.size) → wpList P ops Q rest (a.put o.dst v') w') : wpList P ops Q (o :: rest) a w :=
 wpList_plain hgd fun _ hK => wp_append_any w s x t ho base e i z size bytes ht hi hz hsize hby hzs hsz v n xs hs hown B A m c news hx hr h1 h63 hbytes hbase fun v' w' h2 h3 h4 => hK _ _ (h v' w' h2 h3 h4)
end
theorem VS.reads {w : World} {B : Nat} {A : Option Addr} {l : List V} (h : VS w B A l) : Reads w B 3 A l.length (l.flatMap V.cells) := by
 refine ⟨cells_len l, fun hn => ?_⟩
 obtain ⟨b, off, rfl, hb, hr⟩ := h hn
 refine ⟨⟨b, off, none⟩, rfl, hb, fun j u hu => ?_⟩
 have hj : j < (l.flatMap V.cells).length := by
  rcases Nat.lt_or_ge j (l.flatMap V.cells).length with h1 | h1
  ·exact h1
  ·rw [List.getElem?_eq_none h1] at hu; cases hu
 rw [cells_len] at hj
 have hi : j / 3 < l.length := by omega
 have hv : l[j / 3]? = some l[j / 3] := List.getElem?_eq_getElem hi
 have e : j = j / 3 * 3 + j % 3 := by omega
 have hc := cells_at l (j / 3) (j % 3) _ hv (Nat.mod_lt _ (by omega))
 rw [← e, hu] at hc
 obtain ⟨h0, h1, h2⟩ := hr (j / 3) _ hv
 rw [add_mid]
 have hm : j % 3 = 0 ∨ j % 3 = 1 ∨ j % 3 = 2 := by omega
 rcases hm with hm | hm | hm <;> rw [hm] at hc e <;> simp [V.cells] at hc <;> subst hc
 ·rw [show off + j = off + j / 3 * 3 by omega]; exact h0
 ·rw [show off + j = off + j / 3 * 3 + 1 by omega]; exact h1
 ·rw [show off + j = off + j / 3 * 3 + 2 by omega]; exact h2
end Go.Proofs.YtchilcchogcibaaGreatDoor
