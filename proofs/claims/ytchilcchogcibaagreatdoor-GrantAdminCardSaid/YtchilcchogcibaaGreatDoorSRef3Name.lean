/- Plain laws on replacing; Plain law; What expressions may be, and come to, as plain functions; Plain laws on expressions; Plain laws on expressions; Plain; The document's letters, digits and names, as plain functions. -/
import Derived.Lib.Replace
import Derived.RegionTactic
import Derived.Test.YtchilcchogcibaaGreatDoorSLex1
import Derived.Test.YtchilcchogcibaaGreatDoorSOpenEx
import Derived.Test.YtchilcchogcibaaGreatDoorSOwnRow
namespace Go.Proofs.YtchilcchogcibaaGreatDoor
open Go
section
variable (old new : List UInt8)
theorem index_yes (b : UInt8) (l : List UInt8) (h : old.isPrefixOf (b :: l) = true) : Lib.index (b :: l) old = ((0 : Nat) : Int) := by rw [Lib.index, if_pos h]; rfl
theorem index_no (b : UInt8) (l : List UInt8) (h : old.isPrefixOf (b :: l) = false) : Lib.index (b :: l) old = if Lib.index l old == -1 then -1 else Lib.index l old + 1 := by rw [Lib.index, h]; simp
theorem count_no (b : UInt8) (l : List UInt8) (h0 : old ≠ []) (h : old.isPrefixOf (b :: l) = false) : Lib.count (b :: l) old = Lib.count l old := by
 have hi := index_no old b l h
 by_cases hm : Lib.index l old = -1
 ·rw [Lib.count_miss hm, Lib.count_miss (by rw [hi, hm]; rfl)]
 ·have hge := Lib.index_ge l old
  obtain ⟨i, e⟩ : ∃ i : Nat, Lib.index l old = i := ⟨(Lib.index l old).toNat, by omega⟩
  have e2 : Lib.index (b :: l) old = ((i + 1 : Nat) : Int) := by rw [hi, e, if_neg (by simp)]; rfl
  rw [Lib.count_hit h0 e, Lib.count_hit h0 e2]
  congr 2
  rw [show i + 1 + old.length = (i + old.length) + 1 by omega, List.drop_succ_cons]
theorem rep_no (b : UInt8) (l : List UInt8) (h : old.isPrefixOf (b :: l) = false) : ∀ k, Lib.replaceK old new k (b :: l) = b :: Lib.replaceK old new k l
 | 0 => rfl
 | k + 1 => by
  have hi := index_no old b l h
  by_cases hm : Lib.index l old = -1
  ·rw [Lib.replaceK, Lib.replaceK, hi, hm]; simp
  ·have hge := Lib.index_ge l old
   obtain ⟨i, e⟩ : ∃ i : Nat, Lib.index l old = i := ⟨(Lib.index l old).toNat, by omega⟩
   have e2 : Lib.index (b :: l) old = ((i + 1 : Nat) : Int) := by rw [hi, e, if_neg (by simp)]; rfl
   rw [Lib.replaceK_hit _ _ _ _ _ e, Lib.replaceK_hit _ _ _ _ _ e2, show i + 1 + old.length = (i + old.length) + 1 by omega, List.drop_succ_cons]
   simp
theorem rep_yes (b : UInt8) (l : List UInt8) (h0 : old ≠ []) (h : old.isPrefixOf (b :: l) = true) :
  Lib.replaceK old new (Lib.count (b :: l) old) (b :: l) = new ++ Lib.replaceK old new (Lib.count ((b :: l).drop old.length) old) ((b :: l).drop old.length) := by
 have e := index_yes old b l h
 rw [Lib.count_hit h0 e, Nat.add_comm, Lib.replaceK_hit _ _ _ _ _ e]
 simp
theorem rep_nil (h0 : old ≠ []) : Lib.replaceK old new (Lib.count [] old) [] = [] := by
 rw [Lib.count_miss (by cases old <;> simp_all [Lib.index])]; rfl
theorem replaceAll_eq (s : List UInt8) (h : (old == new) = false) : Lib.replaceAll s old new = Lib.replaceK old new (Lib.count s old) s := by
 unfold Lib.replaceAll Lib.replace Lib.replaceNum
 rw [h, if_pos (Or.inl (by decide))]; rfl
end
/-- Each quote twice. -/
def quoteS : List UInt8 → List UInt8
 | [] => []
 | c :: r => if c = 39 then 39 :: 39 :: quoteS r else c :: quoteS r
theorem replace_quote (s : List UInt8) : Lib.replaceAll s [39] [39, 39] = quoteS s := by
 rw [replaceAll_eq _ _ _ (by decide)]
 induction s with
 | nil => exact rep_nil _ _ (by simp)
 | cons c r ih =>
  by_cases h : c = 39
  ·subst h
   rw [rep_yes _ _ _ _ (by simp) (by simp [List.isPrefixOf])]
   simp only [List.length_cons, List.length_nil, List.drop_succ_cons, List.drop_zero, Nat.zero_add]
   rw [ih]; simp [quoteS]
  ·have hp : ([39] : List UInt8).isPrefixOf (c :: r) = false := by simp [List.isPrefixOf]; exact fun e => h e.symm
   rw [count_no _ _ _ (by simp) hp, rep_no _ _ _ _ hp, ih]; simp [quoteS, h]
/-- Two quotes are one. -/
def unquoteS : List UInt8 → List UInt8
 | [] => []
 | [c] => [c]
 | c :: d :: r => if c = 39 ∧ d = 39 then 39 :: unquoteS r else c :: unquoteS (d :: r)
theorem replace_unquote : ∀ (n : Nat) (s : List UInt8), s.length ≤ n → Lib.replaceAll s [39, 39] [39] = unquoteS s := by
 intro n
 induction n with
 | zero =>
  intro s hs
  rw [replaceAll_eq _ _ _ (by decide)]
  obtain rfl : s = [] := List.eq_nil_of_length_eq_zero (by omega)
  exact rep_nil _ _ (by simp)
 | succ n ih =>
  intro s hs
  match s, hs with
  | [], _ => rw [replaceAll_eq _ _ _ (by decide)]; exact rep_nil _ _ (by simp)
  | [c], _ =>
   have hp : ([39, 39] : List UInt8).isPrefixOf [c] = false := by simp [List.isPrefixOf]
   rw [replaceAll_eq _ _ _ (by decide), count_no _ _ _ (by simp) hp, rep_no _ _ _ _ hp, rep_nil _ _ (by simp)]; rfl
  | c :: d :: r, hs =>
   by_cases h : c = 39 ∧ d = 39
   ·obtain ⟨rfl, rfl⟩ := h
    have e := ih r (by simp at hs; omega)
    rw [replaceAll_eq _ _ _ (by decide)] at e ⊢
    rw [rep_yes _ _ _ _ (by simp) (by simp [List.isPrefixOf])]
    simp only [List.length_cons, List.length_nil, List.drop_succ_cons, List.drop_zero, Nat.zero_add]
    rw [e]; simp [unquoteS]
   ·have hp : ([39, 39] : List UInt8).isPrefixOf (c :: d :: r) = false := by
     simp [List.isPrefixOf]; intro e1 e2; exact h ⟨e1.symm, e2.symm⟩
    have e := ih (d :: r) (by simp at hs ⊢; omega)
    rw [replaceAll_eq _ _ _ (by decide)] at e ⊢
    rw [count_no _ _ _ (by simp) hp, rep_no _ _ _ _ hp, e]; simp [unquoteS, h]
theorem quoteS_len (s : List UInt8) : (quoteS s).length ≤ 2 * s.length := by
 induction s with
 | nil => simp [quoteS]
 | cons c r ih => unfold quoteS; split <;> simp <;> omega
theorem unquote_quote (s : List UInt8) : unquoteS (quoteS s) = s := by
 induction s with
 | nil => rfl
 | cons c r ih =>
  by_cases h : c = 39
  ·subst h; simp [quoteS, unquoteS, ih]
  ·have : quoteS (c :: r) = c :: quoteS r := by simp [quoteS, h]
   rw [this]
   cases hq : quoteS r with
   | nil => rw [hq] at ih; simp [unquoteS] at ih ⊢; exact ih
   | cons d t => rw [hq] at ih; rw [unquoteS, if_neg (by simp [h]), ih]
end Go.Proofs.YtchilcchogcibaaGreatDoor
namespace Go.Proofs.YtchilcchogcibaaGreatDoor
open Go.RowKit
def signL : List UInt8 := [40, 41, 44, 61, 60, 43, 45, 42]
def signB (c : UInt8) : Bool := decide (0 ≤ Lib.indexByte signL c)
def runB (m : Nat) (f g : UInt8 → Bool) (s : List UInt8) : Bool := decide (1 ≤ s.length) && decide (s.length ≤ m) && (lenRun f g s == s.length)
def oneSign : List UInt8 → Bool
 | [c] => signB c
 | _ => false
/-- May a token be? -/
def mayT (t : Tok) : Bool :=
 if t.k = 3 then mayB 2 0 t.s else if t.k = 4 then oneSign t.s
 else if t.k = 1 then runB 16 letB partB t.s else if t.k = 2 then runB 19 digB digB t.s else false
/-- Where the sign is that ends a text between signs, from a place on; none: nowhere. -/
def endQ : List UInt8 → Nat → Option Nat
 | [], _ => none
 | [c], n => if c.toNat = 39 then some n else none
 | c :: d :: r, n => if c.toNat = 39 then (if d.toNat = 39 then endQ r (n + 2) else some n) else endQ (d :: r) (n + 1)
def quotedT (s : List UInt8) : Tok × Nat := match endQ (s.drop 1) 1 with | none => (⟨0, []⟩, 0) | some n => (⟨3, unquoteS ((s.take n).drop 1)⟩, n + 1)
/-- The token with which a text begins, and how many octets it takes. -/
def firstT (s : List UInt8) : Tok × Nat :=
 if 0 < lenRun letB partB s then (⟨1, s.take (lenRun letB partB s)⟩, lenRun letB partB s)
 else if 0 < lenRun digB digB s then (⟨2, s.take (lenRun digB digB s)⟩, lenRun digB digB s)
 else match s with | [] => (⟨4, []⟩, 1) | c :: r => if c.toNat = 39 then quotedT (c :: r) else (⟨4, [c]⟩, 1)
def blankB (c : UInt8) : Bool := c.toNat == 32 || c.toNat == 10
/-- The tokens of a text, behind those that there are; at most n steps. -/
def cutA : Nat → List UInt8 → List Tok → Option (List Tok)
 | _, [], l => some l
 | 0, _ :: _, _ => none
 | n + 1, c :: r, l => if blankB c then cutA n r l else if mayT (firstT (c :: r)).1 && decide (l.length ≠ 400) then cutA n ((c :: r).drop (firstT (c :: r)).2) (l ++ [(firstT (c :: r)).1]) else none
def cutT (s : List UInt8) : Option (List Tok) := cutA s.length s []
def opLit : List UInt8 := [108, 105, 116]
def opCol : List UInt8 := [99, 111, 108]
def opNot : List UInt8 := [110, 111, 116]
def opNull : List UInt8 := [110, 117, 108, 108]
def opAnd : List UInt8 := [97, 110, 100]
def opOr : List UInt8 := [111, 114]
def opEq : List UInt8 := [61]
def opLt : List UInt8 := [60]
def opPlus : List UInt8 := [43]
def opMinus : List UInt8 := [45]
/-- How many parts an Op has; -1: there is no such Op. -/
def partsF (op : List UInt8) : Int :=
 if op = opLit ∨ op = opCol then 0 else if op = opNot ∨ op = opNull then 1
 else if op = opAnd ∨ op = opOr ∨ op = opEq ∨ op = opLt ∨ op = opPlus ∨ op = opMinus then 2 else -1
def words : List (List UInt8) := [[65, 78, 68], [79, 82], [78, 79, 84], [73, 83], [78, 85, 76, 76], [84, 82, 85, 69], [70, 65, 76, 83, 69], [67, 82, 69, 65, 84, 69], [84, 65, 66, 76, 69], [73, 78, 84], [84, 69, 88, 84], [66, 79, 79, 76], [75, 69, 89], [85, 78, 73, 81, 85, 69], [82, 69, 70, 69, 82, 69, 78, 67, 69, 83], [67, 72, 69, 67, 75], [68, 82, 79, 80], [73, 78, 83, 69, 82, 84], [73, 78, 84, 79], [86, 65, 76, 85, 69, 83], [85, 80, 68, 65, 84, 69], [83, 69, 84], [87, 72, 69, 82, 69], [68, 69, 76, 69, 84, 69], [70, 82, 79, 77], [83, 69, 76, 69, 67, 84], [71, 82, 65, 78, 84], [82, 69, 65, 68], [87, 82, 73, 84, 69], [79, 78], [84, 79], [82, 69, 86, 79, 75, 69], [77, 73, 71, 82, 65, 84, 69], [67, 79, 80, 89], [74, 79, 73, 78], [71, 82, 79, 85, 80], [66, 89], [83, 85, 77]]
def reserved (s : List UInt8) : Bool := words.contains s
def nameB (s : List UInt8) : Bool := runB 16 letB partB s
def isZero (v : V) : Bool := decide (v.k = 0) && decide (v.i = 0) && decide (v.s = [])
def mayFold (f : Nat → Ex → Bool × Nat) : Nat → List Ex → Bool × Nat
 | c, [] => (true, c)
 | c, x :: r => if (f c x).1 then mayFold f (f c x).2 r else (false, (f c x).2)
/-- May an expression be, at a depth, if so many nodes there were; how many there are then. -/
def mayE : Nat → Nat → Nat → Ex → Bool × Nat
 | n, d, c, e =>
  if decide (12 < d) || decide (60 < c + 1) || !decide ((e.l.length : Int) = partsF e.op) then (false, c + 1)
  else if e.op = opLit then (decide (e.s = []) && mayB e.v.k e.v.i e.v.s, c + 1)
  else if e.op = opCol then (isZero e.v && nameB e.s && !reserved e.s, c + 1)
  else if !isZero e.v || !decide (e.s = []) then (false, c + 1)
  else match n with
   | 0 => (true, c + 1)
   | n + 1 => mayFold (mayE n (d + 1)) (c + 1) e.l
def may (n : Nat) (e : Ex) : Bool := (mayE n 1 0 e).1
/-- The place of the first column of a name; -1: there is none. -/
def placeFrom (s : List UInt8) : List Col → Nat → Int
 | [], _ => -1
 | c :: r, n => if c.n = s then (n : Int) else placeFrom s r (n + 1)
def placeF (l : List Col) (s : List UInt8) : Int := placeFrom s l 0
def andV (a b : V) : V := truthV (andN (saysF a.k a.i a.s) (saysF b.k b.i b.s))
def orV (a b : V) : V := truthV (orN (saysF a.k a.i a.s) (saysF b.k b.i b.s))
def notV (a : V) : V := truthV (notN (saysF a.k a.i a.s))
def nullV (a : V) : V := bV (decide ((goodV a.k a.i a.s).k = 0))
def doF (op : List UInt8) (a b : V) : V :=
 if op = opAnd then andV a b else if op = opOr then orV a b else if op = opNot then notV a else if op = opEq then equalV a b
 else if op = opLt then lessV a b else if op = opPlus then plusV a b else if op = opMinus then minusV a b else nullV a
/-- What an expression that may be comes to. -/
def evalE : Nat → List Col → List V → Ex → V
 | n, cols, row, e =>
  if e.op = opLit then e.v
  else if e.op = opCol then (if placeF cols e.s < 0 then V.zero else row.getD (placeF cols e.s).toNat V.zero)
  else match n with
   | 0 => doF e.op V.zero V.zero
   | n + 1 => doF e.op (((e.l.map (evalE n cols row))).getD 0 V.zero) ((e.l.map (evalE n cols row)).getD 1 V.zero)
def eval (n : Nat) (cols : List Col) (row : List V) (e : Ex) : V := if may n e then evalE n cols row e else V.zero
def fitI (i : Int) : Prop := -9223372036854775808 ≤ i ∧ i ≤ 9223372036854775807
theorem mayFold_congr {f g : Nat → Ex → Bool × Nat} : ∀ (l : List Ex) (c : Nat), (∀ x ∈ l, ∀ c, f c x = g c x) → mayFold f c l = mayFold g c l
 | [], _, _ => rfl
 | x :: r, c, h => by
  unfold mayFold
  rw [h x (by simp) c, mayFold_congr r _ (fun y hy => h y (by simp [hy]))]
theorem mayE_fuel : ∀ (n m d c : Nat) (e : Ex), 13 ≤ n + d → 13 ≤ m + d → mayE n d c e = mayE m d c e := by
 intro n
 induction n with
 | zero =>
  intro m d c e h1 h2
  unfold mayE
  simp [show 12 < d by omega]
 | succ n ih =>
  intro m d c e h1 h2
  by_cases hd : 12 < d
  ·unfold mayE
   simp [hd]
  ·cases m with
   | zero => omega
   | succ m =>
    unfold mayE
    simp only [mayFold_congr e.l (c + 1) (fun x _ c' => ih m (d + 1) c' x (by omega) (by omega))]
theorem mayE_up : ∀ (n d c : Nat) (e : Ex), Hgt n e.l → mayE (n + 1) d c e = mayE n d c e := by
 intro n
 induction n with
 | zero =>
  intro d c e h
  have hl : e.l = [] := h
  unfold mayE
  rw [hl]
  rfl
 | succ n ih =>
  intro d c e h
  unfold mayE
  simp only [mayFold_congr e.l (c + 1) (fun x hx c' => ih (d + 1) c' x (h x hx))]
theorem Hgt.upTo {n : Nat} {l : List Ex} (h : Hgt n l) : ∀ m, n ≤ m → Hgt m l
 | 0, hm => by
  have : n = 0 := by omega
  subst this; exact h
 | m + 1, hm => by
  by_cases he : n = m + 1
  ·subst he; exact h
  ·exact (h.upTo m (by omega)).up m
theorem mayE_ups (d c : Nat) (e : Ex) (n : Nat) (h : Hgt n e.l) : ∀ m, n ≤ m → mayE m d c e = mayE n d c e
 | 0, hm => by
  have : n = 0 := by omega
  subst this; rfl
 | m + 1, hm => by
  by_cases he : n = m + 1
  ·subst he; rfl
  ·rw [mayE_up m d c e (h.upTo m (by omega)), mayE_ups d c e n h m (by omega)]
def mayX (e : Ex) : Bool := may 12 e
theorem may_X (n : Nat) (e : Ex) (h : Hgt n e.l) : may n e = mayX e := by
 unfold may mayX may
 rw [← mayE_ups 1 0 e n h (max n 12) (Nat.le_max_left _ _), mayE_fuel (max n 12) 12 1 0 e (by omega) (by omega)]
/-- An expression in a row: itself, and where its parts lie. -/
structure ExC where
 e : Ex
 A : Option Addr
 c : Nat
def ExC.cells (r : ExC) : List Value := r.e.cells r.A r.c
theorem ExC.cells_length (r : ExC) : r.cells.length = 6 := rfl
def ExC.good (K n : Nat) (w : World) (r : ExC) : Prop := r.e.fit K ∧ r.e.l.length ≤ r.c ∧ r.c ≤ maxLen ∧ ExS K n w w.heap.size r.A r.e.l
theorem ExC.good.below {K n : Nat} {w w' : World} {r : ExC} (h : r.good K n w) (hb : Below w.heap.size w w') : r.good K n w' := ⟨h.1, h.2.1, h.2.2.1, (h.2.2.2.below n hb).more hb.size n⟩
theorem exc_at : ∀ (l : List ExC) (i j : Nat) (v : ExC), l[i]? = some v → j < 6 → (l.flatMap ExC.cells)[i * 6 + j]? = v.cells[j]? := by
 intro l
 induction l with
 | nil => intro i j v h; simp at h
 | cons x r ih =>
  intro i j v h hj
  cases i with
  | zero =>
   simp at h; subst h
   rw [List.flatMap_cons, List.getElem?_append_left (by rw [ExC.cells_length]; omega)]
   simp
  | succ i =>
   rw [List.flatMap_cons, List.getElem?_append_right (by rw [ExC.cells_length]; omega), ExC.cells_length]
   have e : (i + 1) * 6 + j - 6 = i * 6 + j := by omega
   rw [e]
   exact ih i j v (by simpa using h) hj
theorem exc_len (l : List ExC) : (l.flatMap ExC.cells).length = l.length * 6 := by
 induction l with
 | nil => rfl
 | cons x r ih => rw [List.flatMap_cons, List.length_append, ih, ExC.cells_length, List.length_cons]; omega
theorem exc_one (l : List ExC) : ∀ u ∈ l.flatMap ExC.cells, u.oneCell' = true := by
 intro u hu
 rw [List.mem_flatMap] at hu
 obtain ⟨v, _, hv⟩ := hu
 simp only [ExC.cells, Ex.cells, List.mem_cons, List.not_mem_nil, or_false] at hv
 rcases hv with rfl | rfl | rfl | rfl | rfl | rfl <;> rfl
theorem ExS.own {K m : Nat} {w : World} {base : Nat} {e : TypeId} {sv : Value} {n : Nat} {l : List ExC} (h : w.ownsRow base e 6 sv n (l.flatMap ExC.cells)) (hg : ∀ r ∈ l, r.good K m w) :
  ∃ A c, sv = .slice A (l.map ExC.e).length c ∧ (l.map ExC.e).length ≤ c ∧ c ≤ maxLen ∧ ExS K (m + 1) w w.heap.size A (l.map ExC.e) := by
 have hn : l.length = n := by have := h.1; rw [exc_len] at this; omega
 rw [List.length_map]
 rcases h.2 with ⟨rfl, h0⟩ | ⟨g, cap, cur, rfl, hb, hgg, hnc, hcm, hcs, htk⟩
 ·have hl : l = [] := List.eq_nil_of_length_eq_zero (by omega)
  subst hl
  exact ⟨none, 0, rfl, Nat.le_refl _, Nat.zero_le _, ExS.nil _⟩
 ·refine ⟨some ⟨g, 0, none⟩, cap, by rw [hn], by omega, hcm, fun _ => ⟨g, 0, rfl, (Array.getElem?_eq_some_iff.1 hgg).1, ?_⟩⟩
  intro i x hx
  rw [List.getElem?_map, Option.map_eq_some_iff] at hx
  obtain ⟨r, hr, rfl⟩ := hx
  obtain ⟨h1, h2, h3, h4⟩ := hg r (List.mem_of_getElem? hr)
  have hc := h.cells (g := g) rfl
  have key : ∀ j u, j < 6 → r.cells[j]? = some u → w.cell? ⟨g, 0 + i * 6 + j, none⟩ = some u := by
   intro j u hj hu
   have := hc (i * 6 + j) u (by rw [exc_at l i j r hr hj]; exact hu)
   rw [add_mid] at this
   rw [Nat.add_assoc]
   exact this
  exact ⟨r.A, r.c, h1, h2, h3, ⟨key 0 _ (by omega) rfl, key 1 _ (by omega) rfl, key 2 _ (by omega) rfl, key 3 _ (by omega) rfl, key 4 _ (by omega) rfl, key 5 _ (by omega) rfl⟩, h4⟩
def fewV4 (v : V) : V := ⟨v.k, v.i, v.s.take 45⟩
def fewFold (f : Int → Ex → Ex × Int) : List Ex → Int → List Ex × Int
 | [], left => ([], left)
 | x :: r, left => if 0 < left then ((f left x).1 :: (fewFold f r (f left x).2).1, (fewFold f r (f left x).2).2) else ([], left)
/-- So deep, and so many nodes at the most; how many are left. -/
def fewE : Nat → Int → Ex → Ex × Int
 | d, left, e => match d with
  | 0 => (.mk (e.op.take 8) (fewV4 e.v) (e.s.take 20) [], left - 1)
  | d + 1 => (.mk (e.op.take 8) (fewV4 e.v) (e.s.take 20) (fewFold (fewE d) (e.l.take 3) (left - 1)).1, (fewFold (fewE d) (e.l.take 3) (left - 1)).2)
def fewX (e : Ex) : Ex := (fewE 14 80 e).1
theorem fewE_left (d : Nat) : ∀ (left : Int) (e : Ex), (fewE d left e).2 ≤ left - 1 := by
 induction d with
 | zero => intro left e; exact Int.le_refl _
 | succ d ih =>
  intro left e
  have hf : ∀ (l : List Ex) (k : Int), (fewFold (fewE d) l k).2 ≤ k := by
   intro l
   induction l with
   | nil => intro k; exact Int.le_refl _
   | cons x r ihl =>
    intro k
    unfold fewFold
    split
    ·have h1 := ihl (fewE d k x).2
     have h2 := ih k x
     omega
    ·exact Int.le_refl _
  exact hf _ _
theorem fewE_ge (d : Nat) : ∀ (left : Int) (e : Ex), 0 < left → 0 ≤ (fewE d left e).2 := by
 induction d with
 | zero => intro left e h; show 0 ≤ left - 1; omega
 | succ d ih =>
  intro left e h
  have hf : ∀ (l : List Ex) (k : Int), 0 ≤ k → 0 ≤ (fewFold (fewE d) l k).2 := by
   intro l
   induction l with
   | nil => intro k hk; exact hk
   | cons x r ihl =>
    intro k hk
    unfold fewFold
    split
    ·rename_i h0
     exact ihl _ (ih k x h0)
    ·exact hk
  exact hf _ _ (by omega)
end Go.Proofs.YtchilcchogcibaaGreatDoor
namespace Go.Proofs.YtchilcchogcibaaGreatDoor
open Go.RowKit
attribute [local go_sem] ByteArray.extract_mk ba_get ba_append
attribute [local go_sem ↓] Go.wp_at_zero Go.wp_at_succ
theorem rdigit_any (c : UInt8) (w : World) : Calls Tryz.prog 117 #[.int .u8 (c.toNat : Int)] w (RetB (digB c) w) := by
 by_cases h1 : 48 ≤ c.toNat
 ·have p1 : (48 : Int) ≤ (c.toNat : Int) := by omega
  by_cases h2 : c.toNat ≤ 57
  ·have p2 : (c.toNat : Int) ≤ 57 := by omega
   go_enter Tryz.func117, Tryz.ntmps117
   go_wp2
   go_ret
   exact ⟨by simp [digB, h1, h2], rfl⟩
  ·have p2 : ¬ (c.toNat : Int) ≤ 57 := by omega
   go_enter Tryz.func117, Tryz.ntmps117
   go_wp2
   go_ret
   exact ⟨by simp [digB, h2], rfl⟩
 ·have p1 : ¬ (48 : Int) ≤ (c.toNat : Int) := by omega
  go_enter Tryz.func117, Tryz.ntmps117
  go_wp2
  go_ret
  exact ⟨by simp [digB, h1], rfl⟩
theorem rletter_any (c : UInt8) (w : World) : Calls Tryz.prog 115 #[.int .u8 (c.toNat : Int)] w (RetB (letB c) w) := by
 by_cases h3 : 65 ≤ c.toNat
 ·have p3 : (65 : Int) ≤ (c.toNat : Int) := by omega
  by_cases h4 : c.toNat ≤ 90
  ·have p4 : (c.toNat : Int) ≤ 90 := by omega
   go_enter Tryz.func115, Tryz.ntmps115
   go_wp2
   go_ret
   exact ⟨by simp [letB, h3, h4], rfl⟩
  ·have p4 : ¬ (c.toNat : Int) ≤ 90 := by omega
   by_cases h1 : 97 ≤ c.toNat
   ·have p1 : (97 : Int) ≤ (c.toNat : Int) := by omega
    by_cases h2 : c.toNat ≤ 122
    ·have p2 : (c.toNat : Int) ≤ 122 := by omega
     go_enter Tryz.func115, Tryz.ntmps115
     go_wp2
     go_ret
     exact ⟨by simp [letB, h1, h2], rfl⟩
    ·have p2 : ¬ (c.toNat : Int) ≤ 122 := by omega
     go_enter Tryz.func115, Tryz.ntmps115
     go_wp2
     go_ret
     exact ⟨by simp [letB, h2, h4], rfl⟩
   ·have p1 : ¬ (97 : Int) ≤ (c.toNat : Int) := by omega
    go_enter Tryz.func115, Tryz.ntmps115
    go_wp2
    go_ret
    exact ⟨by simp [letB, h1, h4], rfl⟩
 ·have p3 : ¬ (65 : Int) ≤ (c.toNat : Int) := by omega
  have p1 : ¬ (97 : Int) ≤ (c.toNat : Int) := by omega
  have h1 : ¬ 97 ≤ c.toNat := by omega
  go_enter Tryz.func115, Tryz.ntmps115
  go_wp2
  go_ret
  exact ⟨by simp [letB, h1, h3], rfl⟩
theorem rpart_any (c : UInt8) (w : World) : Calls Tryz.prog 116 #[.int .u8 (c.toNat : Int)] w (RetB (partB c) w) := by
 obtain ⟨R, hR⟩ : ∃ R, partB c = R := ⟨_, rfl⟩
 rw [hR]
 cases hd : digB c
 ·have HD := Lib.hid hd
  cases hl : letB c
  ·have HL := Lib.hid hl
   have HP : Hid (R = ((c.toNat : Int) == 95)) := by
    show _ = _
    rw [← hR]
    unfold partB
    rw [hl, hd]
    by_cases h : c.toNat = 95
    ·simp [h]
    ·have : ¬ ((c.toNat : Int) = 95) := by omega
     simp [h, this]
   clear hl hd hR
   go_enter Tryz.func116, Tryz.ntmps116
   go_wp2_with (first | (go_at_call 117; refine (rdigit_any c _).mono ?_; rw [HD.out]; rintro e w' ⟨rfl, rfl⟩) | (go_at_call 115; refine (rletter_any c _).mono ?_; rw [HL.out]; rintro e w' ⟨rfl, rfl⟩))
   go_ret
   exact ⟨by rw [HP.out]; rfl, rfl⟩
  ·have HL := Lib.hid hl
   have HP : Hid (R = true) := by show _ = _; rw [← hR]; unfold partB; rw [hl]; rfl
   clear hl hd hR
   go_enter Tryz.func116, Tryz.ntmps116
   go_wp2_with (first | (go_at_call 117; refine (rdigit_any c _).mono ?_; rw [HD.out]; rintro e w' ⟨rfl, rfl⟩) | (go_at_call 115; refine (rletter_any c _).mono ?_; rw [HL.out]; rintro e w' ⟨rfl, rfl⟩))
   go_ret
   exact ⟨by rw [HP.out]; rfl, rfl⟩
 ·have HD := Lib.hid hd
  have HP : Hid (R = true) := by show _ = _; rw [← hR]; unfold partB; rw [hd]; simp
  clear hd hR
  go_enter Tryz.func116, Tryz.ntmps116
  go_wp2_with (go_at_call 117; refine (rdigit_any c _).mono ?_; rw [HD.out]; rintro e w' ⟨rfl, rfl⟩)
  go_ret
  exact ⟨by rw [HP.out]; rfl, rfl⟩
/-- A name, as the document says. -/
theorem takeWhile_len (g : UInt8 → Bool) : ∀ r : List UInt8, ((r.takeWhile g).length = r.length) ↔ r.all g = true
 | [] => by simp
 | c :: r => by
  have ih := takeWhile_len g r
  rw [List.takeWhile_cons, List.all_cons]
  cases hg : g c
  ·simp
  ·simp only [if_true, List.length_cons, Bool.true_and]
   rw [← ih]
   omega
def headB (f : UInt8 → Bool) : List UInt8 → Bool
 | [] => false
 | c :: _ => f c
theorem runB_name (m : Nat) (f g : UInt8 → Bool) (hfg : ∀ c, f c = true → g c = true) (s : List UInt8) : runB m f g s = (s.all g && (decide (1 ≤ s.length) && decide (s.length ≤ m) && headB f s)) := by
 unfold runB
 cases s with
 | nil => simp
 | cons c r =>
  have hl : lenRun f g (c :: r) = if f c then 1 + (r.takeWhile g).length else 0 := rfl
  rw [hl]
  cases hf : f c
  ·have : headB f (c :: r) = false := hf
   rw [this]
   simp
  ·have hg := hfg c hf
   have hh : headB f (c :: r) = true := hf
   have key : ((1 + (r.takeWhile g).length) == (c :: r).length) = r.all g := by
    rw [Bool.eq_iff_iff, beq_iff_eq, ← takeWhile_len, List.length_cons]
    omega
   rw [hh, List.all_cons, hg]
   simp only [if_true, key, Bool.true_and, Bool.and_true]
   cases r.all g <;> simp
theorem all_at (g : UInt8 → Bool) (s : List UInt8) (j : Nat) (hj : j < s.length) : (s.drop j).all g = (g s[j] && (s.drop (j + 1)).all g) := by
 rw [List.drop_eq_getElem_cons hj, List.all_cons]
set_option maxHeartbeats 1000000 in
theorem rname_any (s : List UInt8) (w : World) (hs : s.length ≤ 1000000) : Calls Tryz.prog 70 #[.string ⟨s.toArray⟩] w (RetB (runB 16 letB partB s) w) := by
 obtain ⟨R, hR⟩ : ∃ R, runB 16 letB partB s = R := ⟨_, rfl⟩
 rw [hR]
 rw [runB_name 16 letB partB (fun c h => by unfold partB; rw [h]; rfl)] at hR
 obtain ⟨T, hT⟩ : ∃ T, (decide (1 ≤ s.length) && decide (s.length ≤ 16) && headB letB s) = T := ⟨_, rfl⟩
 rw [hT] at hR
 have HT := Lib.hid hT
 have HR : Hid (((s.drop 0).all partB && T) = R) := hR
 clear hT hR
 go_enter Tryz.func70, Tryz.ntmps70
 go_wp2
 go_loopg [3] s.length (fun g i wr => ∃ j : Nat, j + g = s.length ∧ i = .int .i64 j ∧ Hid (((s.drop j).all partB && T) = R) ∧ wr = w)
 case atStart => exact ⟨0, by omega, rfl, HR, rfl⟩
 case round =>
  obtain ⟨j, hj, rfl, hrest, rfl⟩ := hrel
  have HJ := Lib.hid hj
  by_cases hlt : j < s.length
  ·obtain ⟨c, hcg⟩ : ∃ c, s[j] = c := ⟨_, rfl⟩
   have hrest' := hrest.out
   rw [all_at _ _ _ hlt, hcg] at hrest'
   obtain ⟨g', rfl⟩ : ∃ g', gk = g' + 1 := ⟨gk - 1, by omega⟩
   clear hj hrest
   cases hq : partB c
   ·have HF : Hid (R = false) := by show R = false; rw [← hrest', hq]; rfl
    have HQ := Lib.hid hq
    clear hrest' hq
    go_wp2_with (go_at_call 116; refine (rpart_any c _).mono ?_; rw [HQ.out]; rintro e w' ⟨rfl, rfl⟩)
    go_ret
    exact ⟨by rw [HF.out]; rfl, rfl⟩
   ·have HF : Hid (((s.drop (j + 1)).all partB && T) = R) := by show _ = R; rw [← hrest', hq]; rfl
    have HQ := Lib.hid hq
    clear hrest' hq
    go_wp2_with (go_at_call 116; refine (rpart_any c _).mono ?_; rw [HQ.out]; rintro e w' ⟨rfl, rfl⟩)
    go_roundg g'
    case measure => omega
    case rel => exact ⟨j + 1, by have := HJ.out; omega, by go_num, HF, rfl⟩
  ·have HF : Hid (R = T) := by
    show R = T
    rw [← hrest.out, List.drop_of_length_le (by omega)]
    rfl
   clear hj hrest HR
   by_cases h1 : 1 ≤ s.length
   ·by_cases h16 : s.length ≤ 16
    ·obtain ⟨c, hc⟩ : ∃ c, s[0] = c := ⟨_, rfl⟩
     have HTL : Hid (T = letB c) := by
      show _ = _
      rw [← HT.out, ← hc]
      cases s with
      | nil => simp at h1
      | cons a r => simp at h16; simp [h16, headB]
     have h2 : (s.length : Int) ≤ 16 := by omega
     have h3 : (1 : Int) ≤ s.length := by omega
     clear HT
     go_wp2_with (go_at_call 115; refine (rletter_any c _).mono ?_; rintro e w' ⟨rfl, rfl⟩)
     go_ret
     exact ⟨by rw [HF.out, HTL.out]; rfl, rfl⟩
    ·have HTL : Hid (T = false) := by show _ = _; rw [← HT.out]; simp [h16]
     have h2 : ¬ (s.length : Int) ≤ 16 := by omega
     have h3 : (1 : Int) ≤ s.length := by omega
     clear HT
     go_wp2_with fail
     go_ret
     exact ⟨by rw [HF.out, HTL.out]; rfl, rfl⟩
   ·have HTL : Hid (T = false) := by show _ = _; rw [← HT.out]; simp [show ¬ 1 ≤ s.length by omega]
    have h3 : ¬ (1 : Int) ≤ s.length := by omega
    clear HT
    go_wp2_with fail
    go_ret
    exact ⟨by rw [HF.out, HTL.out]; rfl, rfl⟩
end Go.Proofs.YtchilcchogcibaaGreatDoor
