/- Plain words for tokens; Plain law; What expressions may be, and come to, as plain functions; Plain laws on expressions; Plain words for slices of numbers; Plain laws on expressions; Plain. -/
import Derived.Test.YtchilcchogcibaaGreatDoorELex1
import Derived.Test.YtchilcchogcibaaGreatDoorEText
namespace Go.Proofs.YtchilcchogcibaaGreatDoor
open Go.RowKit
structure Tok where
 k : Int
 s : List UInt8
def Tok.cells (t : Tok) : List Value := [.int .i64 t.k, .string ⟨t.s.toArray⟩]
theorem Tok.cells_length (t : Tok) : t.cells.length = 2 := rfl
def TkRow (w : World) (b off : Nat) (l : List Tok) : Prop := ∀ i v, l[i]? = some v → w.cell? ⟨b, off + i * 2, none⟩ = some (.int .i64 v.k) ∧ w.cell? ⟨b, off + i * 2 + 1, none⟩ = some (.string ⟨v.s.toArray⟩)
def TkS (w : World) (B : Nat) (A : Option Addr) (l : List Tok) : Prop := 0 < l.length → ∃ b off, A = some ⟨b, off, none⟩ ∧ b < B ∧ TkRow w b off l
def TkF (w : World) (lo hi : Nat) (A : Option Addr) (l : List Tok) : Prop := 0 < l.length → ∃ b off, A = some ⟨b, off, none⟩ ∧ lo ≤ b ∧ b < hi ∧ TkRow w b off l
section
variable {w w' : World} {A : Option Addr} {l : List Tok}
theorem TkS.at_ {B : Nat} (h : TkS w B A l) {j : Nat} (hj : j < l.length) :
  ∃ b off v, A = some ⟨b, off, none⟩ ∧ b < B ∧ l[j]? = some v ∧ w.cell? ⟨b, off + j * 2, none⟩ = some (.int .i64 v.k) ∧ w.cell? ⟨b, off + j * 2 + 1, none⟩ = some (.string ⟨v.s.toArray⟩) := by
 obtain ⟨b, off, rfl, hb, hr⟩ := h (by omega)
 have hv : l[j]? = some l[j] := List.getElem?_eq_getElem hj
 obtain ⟨h0, h1⟩ := hr j _ hv
 exact ⟨b, off, l[j], rfl, hb, hv, h0, h1⟩
theorem TkRow.keep {b off : Nat} (h : TkRow w b off l) (hk : ∀ o, w'.cell? ⟨b, o, none⟩ = w.cell? ⟨b, o, none⟩) : TkRow w' b off l := by
 intro i v hv
 obtain ⟨h0, h1⟩ := h i v hv
 exact ⟨(hk _).trans h0, (hk _).trans h1⟩
theorem TkS.below {B : Nat} (h : TkS w B A l) (hb : Below B w w') : TkS w' B A l := fun hl => by
 obtain ⟨b, off, rfl, hbB, hr⟩ := h hl
 exact ⟨b, off, rfl, hbB, hr.keep fun o => hb.cell (p := ⟨b, o, none⟩) hbB⟩
theorem TkS.more {B B' : Nat} (h : TkS w B A l) (hB : B ≤ B') : TkS w B' A l := fun hl => by
 obtain ⟨b, off, rfl, hbB, hr⟩ := h hl
 exact ⟨b, off, rfl, by omega, hr⟩
theorem TkS.nil {B : Nat} : TkS w B A [] := fun h => absurd h (by simp)
theorem TkF.nil {lo hi : Nat} : TkF w lo hi A [] := fun h => absurd h (by simp)
theorem TkF.vs {lo hi B : Nat} (h : TkF w lo hi A l) (hB : hi ≤ B) : TkS w B A l := fun hl => by
 obtain ⟨b, off, rfl, _, h2, h3⟩ := h hl
 exact ⟨b, off, rfl, by omega, h3⟩
theorem TkF.below {lo hi B : Nat} (h : TkF w lo hi A l) (hb : Below B w w') (hB : hi ≤ B) : TkF w' lo hi A l := fun hl => by
 obtain ⟨b, off, rfl, h1, h2, h3⟩ := h hl
 exact ⟨b, off, rfl, h1, h2, h3.keep fun o => hb.cell (p := ⟨b, o, none⟩) (by show b < B; omega)⟩
end
theorem tk_at : ∀ (l : List Tok) (i j : Nat) (v : Tok), l[i]? = some v → j < 2 → (l.flatMap Tok.cells)[i * 2 + j]? = v.cells[j]? := by
 intro l
 induction l with
 | nil => intro i j v h; simp at h
 | cons x r ih =>
  intro i j v h hj
  cases i with
  | zero =>
   simp at h; subst h
   rw [List.flatMap_cons, List.getElem?_append_left (by rw [Tok.cells_length]; omega)]
   simp
  | succ i =>
   rw [List.flatMap_cons, List.getElem?_append_right (by rw [Tok.cells_length]; omega), Tok.cells_length]
   have e : (i + 1) * 2 + j - 2 = i * 2 + j := by omega
   rw [e]
   exact ih i j v (by simpa using h) hj
theorem tk_len (l : List Tok) : (l.flatMap Tok.cells).length = l.length * 2 := by
 induction l with
 | nil => rfl
 | cons x r ih => rw [List.flatMap_cons, List.length_append, ih, Tok.cells_length, List.length_cons]; omega
theorem tk_one (l : List Tok) : ∀ u ∈ l.flatMap Tok.cells, u.oneCell' = true := by
 intro u hu
 rw [List.mem_flatMap] at hu
 obtain ⟨v, _, hv⟩ := hu
 simp only [Tok.cells, List.mem_cons, List.not_mem_nil, or_false] at hv
 rcases hv with rfl | rfl <;> rfl
theorem TkS.own {w : World} {base : Nat} {e : TypeId} {sv : Value} {n : Nat} {l : List Tok} (h : w.ownsRow base e 2 sv n (l.flatMap Tok.cells)) :
  ∃ A c, sv = .slice A l.length c ∧ l.length ≤ c ∧ c ≤ maxLen ∧ TkF w base w.heap.size A l := by
 have hn : l.length = n := by have := h.1; rw [tk_len] at this; omega
 rcases h.2 with ⟨rfl, h0⟩ | ⟨g, cap, cur, rfl, hb, hg, hnc, hcm, hcs, htk⟩
 ·refine ⟨none, 0, ?_, by omega, Nat.zero_le _, fun hl => absurd hl (by omega)⟩
  rw [hn, h0]
 ·refine ⟨some ⟨g, 0, none⟩, cap, by rw [hn], by omega, hcm, fun _ => ⟨g, 0, rfl, hb, ?_, ?_⟩⟩
  ·exact (Array.getElem?_eq_some_iff.1 hg).1
  ·intro i v hv
   have hc := h.cells (g := g) rfl
   have key : ∀ j u, j < 2 → v.cells[j]? = some u → w.cell? ⟨g, 0 + i * 2 + j, none⟩ = some u := by
    intro j u hj hu
    have := hc (i * 2 + j) u (by rw [tk_at l i j v hv hj]; exact hu)
    rw [add_mid] at this
    rw [Nat.add_assoc]
    exact this
   exact ⟨key 0 _ (by omega) rfl, key 1 _ (by omega) rfl⟩
theorem tk_block {w : World} {g : Nat} {e : TypeId} {l : List Tok} (h : Blk w g e (l.flatMap Tok.cells).toArray) : TkS w w.heap.size (some ⟨g, 0, none⟩) l := by
 intro _
 refine ⟨g, 0, rfl, h.lt, fun i v hv => ?_⟩
 have key : ∀ j u, j < 2 → v.cells[j]? = some u → w.cell? ⟨g, 0 + i * 2 + j, none⟩ = some u := by
  intro j u hj hu
  rw [h.cell, List.getElem?_toArray, Nat.zero_add, tk_at l i j v hv hj]
  exact hu
 exact ⟨key 0 _ (by omega) rfl, key 1 _ (by omega) rfl⟩
def RetTk (l : List Tok) (n : Int) (w : World) (e : Ending) (w' : World) : Prop :=
 ∃ A c, e = .returned (.tuple #[.slice A l.length c, .int .i64 n]) ∧ l.length ≤ c ∧ c ≤ maxLen ∧ TkF w' w.heap.size w'.heap.size A l ∧ Below w.heap.size w w'
def signL : List UInt8 := [40, 41, 44, 61, 60, 43, 45, 42]
def signB (c : UInt8) : Bool := decide (0 ≤ Lib.indexByte signL c)
def runB (m : Nat) (f g : UInt8 → Bool) (s : List UInt8) : Bool := decide (1 ≤ s.length) && decide (s.length ≤ m) && (lenRun f g s == s.length)
def oneSign : List UInt8 → Bool
 | [c] => signB c
 | _ => false
def mayT (t : Tok) : Bool :=
 if t.k = 3 then mayB 2 0 t.s else if t.k = 4 then oneSign t.s
 else if t.k = 1 then runB 16 letB partB t.s else if t.k = 2 then runB 19 digB digB t.s else false
def endQ : List UInt8 → Nat → Option Nat
 | [], _ => none
 | [c], n => if c.toNat = 39 then some n else none
 | c :: d :: r, n => if c.toNat = 39 then (if d.toNat = 39 then endQ r (n + 2) else some n) else endQ (d :: r) (n + 1)
def quotedT (s : List UInt8) : Tok × Nat := match endQ (s.drop 1) 1 with | none => (⟨0, []⟩, 0) | some n => (⟨3, unquoteS ((s.take n).drop 1)⟩, n + 1)
def firstT (s : List UInt8) : Tok × Nat :=
 if 0 < lenRun letB partB s then (⟨1, s.take (lenRun letB partB s)⟩, lenRun letB partB s)
 else if 0 < lenRun digB digB s then (⟨2, s.take (lenRun digB digB s)⟩, lenRun digB digB s)
 else match s with | [] => (⟨4, []⟩, 1) | c :: r => if c.toNat = 39 then quotedT (c :: r) else (⟨4, [c]⟩, 1)
def blankB (c : UInt8) : Bool := c.toNat == 32 || c.toNat == 10
def cutA : Nat → List UInt8 → List Tok → Option (List Tok)
 | _, [], l => some l
 | 0, _ :: _, _ => none
 | n + 1, c :: r, l => if blankB c then cutA n r l else if mayT (firstT (c :: r)).1 && decide (l.length ≠ 400) then cutA n ((c :: r).drop (firstT (c :: r)).2) (l ++ [(firstT (c :: r)).1]) else none
def cutT (s : List UInt8) : Option (List Tok) := cutA s.length s []
def opLit : List UInt8 := [108, 105, 116]
def opCol : List UInt8 := [99, 111, 108]
def opNot : List UInt8 := [110, 111, 116]
def opNull : List UInt8 := [110, 117, 108, 108]
def opAnd : List UInt8 := [97, 110, 100]
def opOr : List UInt8 := [111, 114]
def opEq : List UInt8 := [61]
def opLt : List UInt8 := [60]
def opPlus : List UInt8 := [43]
def opMinus : List UInt8 := [45]
def partsF (op : List UInt8) : Int :=
 if op = opLit ∨ op = opCol then 0 else if op = opNot ∨ op = opNull then 1
 else if op = opAnd ∨ op = opOr ∨ op = opEq ∨ op = opLt ∨ op = opPlus ∨ op = opMinus then 2 else -1
def words : List (List UInt8) := [[65, 78, 68], [79, 82], [78, 79, 84], [73, 83], [78, 85, 76, 76], [84, 82, 85, 69], [70, 65, 76, 83, 69], [67, 82, 69, 65, 84, 69], [84, 65, 66, 76, 69], [73, 78, 84], [84, 69, 88, 84], [66, 79, 79, 76], [75, 69, 89], [85, 78, 73, 81, 85, 69], [82, 69, 70, 69, 82, 69, 78, 67, 69, 83], [67, 72, 69, 67, 75], [68, 82, 79, 80], [73, 78, 83, 69, 82, 84], [73, 78, 84, 79], [86, 65, 76, 85, 69, 83], [85, 80, 68, 65, 84, 69], [83, 69, 84], [87, 72, 69, 82, 69], [68, 69, 76, 69, 84, 69], [70, 82, 79, 77], [83, 69, 76, 69, 67, 84], [71, 82, 65, 78, 84], [82, 69, 65, 68], [87, 82, 73, 84, 69], [79, 78], [84, 79], [82, 69, 86, 79, 75, 69], [77, 73, 71, 82, 65, 84, 69], [67, 79, 80, 89], [74, 79, 73, 78], [71, 82, 79, 85, 80], [66, 89], [83, 85, 77]]
def reserved (s : List UInt8) : Bool := words.contains s
def nameB (s : List UInt8) : Bool := runB 16 letB partB s
def isZero (v : V) : Bool := decide (v.k = 0) && decide (v.i = 0) && decide (v.s = [])
def mayFold (f : Nat → Ex → Bool × Nat) : Nat → List Ex → Bool × Nat
 | c, [] => (true, c)
 | c, x :: r => if (f c x).1 then mayFold f (f c x).2 r else (false, (f c x).2)
def mayE : Nat → Nat → Nat → Ex → Bool × Nat
 | n, d, c, e =>
  if decide (12 < d) || decide (60 < c + 1) || !decide ((e.l.length : Int) = partsF e.op) then (false, c + 1)
  else if e.op = opLit then (decide (e.s = []) && mayB e.v.k e.v.i e.v.s, c + 1)
  else if e.op = opCol then (isZero e.v && nameB e.s && !reserved e.s, c + 1)
  else if !isZero e.v || !decide (e.s = []) then (false, c + 1)
  else match n with
   | 0 => (true, c + 1)
   | n + 1 => mayFold (mayE n (d + 1)) (c + 1) e.l
def may (n : Nat) (e : Ex) : Bool := (mayE n 1 0 e).1
def placeFrom (s : List UInt8) : List Col → Nat → Int
 | [], _ => -1
 | c :: r, n => if c.n = s then (n : Int) else placeFrom s r (n + 1)
def placeF (l : List Col) (s : List UInt8) : Int := placeFrom s l 0
def andV (a b : V) : V := truthV (andN (saysF a.k a.i a.s) (saysF b.k b.i b.s))
def orV (a b : V) : V := truthV (orN (saysF a.k a.i a.s) (saysF b.k b.i b.s))
def notV (a : V) : V := truthV (notN (saysF a.k a.i a.s))
def nullV (a : V) : V := bV (decide ((goodV a.k a.i a.s).k = 0))
def doF (op : List UInt8) (a b : V) : V :=
 if op = opAnd then andV a b else if op = opOr then orV a b else if op = opNot then notV a else if op = opEq then equalV a b
 else if op = opLt then lessV a b else if op = opPlus then plusV a b else if op = opMinus then minusV a b else nullV a
def evalE : Nat → List Col → List V → Ex → V
 | n, cols, row, e =>
  if e.op = opLit then e.v
  else if e.op = opCol then (if placeF cols e.s < 0 then V.zero else row.getD (placeF cols e.s).toNat V.zero)
  else match n with
   | 0 => doF e.op V.zero V.zero
   | n + 1 => doF e.op (((e.l.map (evalE n cols row))).getD 0 V.zero) ((e.l.map (evalE n cols row)).getD 1 V.zero)
def eval (n : Nat) (cols : List Col) (row : List V) (e : Ex) : V := if may n e then evalE n cols row e else V.zero
def fitI (i : Int) : Prop := -9223372036854775808 ≤ i ∧ i ≤ 9223372036854775807
theorem zero_in : fitI V.zero.i := by simp [V.zero, fitI]
def IS (w : World) (B : Nat) (A : Option Addr) (l : List Int) : Prop := 0 < l.length → ∃ b off, A = some ⟨b, off, none⟩ ∧ b < B ∧ ∀ i x, l[i]? = some x → w.cell? ⟨b, off + i, none⟩ = some (.int .i64 x)
def IF (w : World) (lo hi : Nat) (A : Option Addr) (l : List Int) : Prop := 0 < l.length → ∃ b off, A = some ⟨b, off, none⟩ ∧ lo ≤ b ∧ b < hi ∧ ∀ i x, l[i]? = some x → w.cell? ⟨b, off + i, none⟩ = some (.int .i64 x)
theorem IF.s {w : World} {lo hi : Nat} {A : Option Addr} {l : List Int} (h : IF w lo hi A l) {B : Nat} (hB : hi ≤ B) : IS w B A l := fun hl => by
 obtain ⟨b, off, rfl, _, h2, h3⟩ := h hl
 exact ⟨b, off, rfl, by omega, h3⟩
theorem IF.keep {w w' : World} {lo hi lo' hi' : Nat} {A : Option Addr} {l : List Int} (h : IF w lo hi A l) (hk : ∀ b, lo ≤ b → b < hi → (lo' ≤ b ∧ b < hi') ∧ ∀ o, w'.cell? ⟨b, o, none⟩ = w.cell? ⟨b, o, none⟩) : IF w' lo' hi' A l := fun hl => by
 obtain ⟨b, off, rfl, h1, h2, h3⟩ := h hl
 exact ⟨b, off, rfl, (hk b h1 h2).1.1, (hk b h1 h2).1.2, fun i x hx => ((hk b h1 h2).2 _).trans (h3 i x hx)⟩
theorem IS.below {w w' : World} {B : Nat} {A : Option Addr} {l : List Int} (h : IS w B A l) (hb : Below B w w') : IS w' B A l := fun hl => by
 obtain ⟨b, off, rfl, hbB, hr⟩ := h hl
 exact ⟨b, off, rfl, hbB, fun i x hx => (hb.cell (p := ⟨b, off + i, none⟩) hbB).trans (hr i x hx)⟩
theorem IS.more {w : World} {B B' : Nat} {A : Option Addr} {l : List Int} (h : IS w B A l) (hB : B ≤ B') : IS w B' A l := fun hl => by
 obtain ⟨b, off, rfl, hbB, hr⟩ := h hl
 exact ⟨b, off, rfl, by omega, hr⟩
theorem IS.nil {w : World} {B : Nat} {A : Option Addr} : IS w B A [] := fun h => absurd h (by simp)
theorem IS.at_ {w : World} {B : Nat} {A : Option Addr} {l : List Int} (h : IS w B A l) {j : Nat} (hj : j < l.length) :
  ∃ b off x, A = some ⟨b, off, none⟩ ∧ b < B ∧ l[j]? = some x ∧ w.cell? ⟨b, off + j, none⟩ = some (.int .i64 x) := by
 obtain ⟨b, off, rfl, hb, hr⟩ := h (by omega)
 exact ⟨b, off, l[j], rfl, hb, List.getElem?_eq_getElem hj, hr j _ (List.getElem?_eq_getElem hj)⟩
theorem IF.own {w : World} {base : Nat} {e : TypeId} {sv : Value} {n : Nat} {l : List Int} (h : w.ownsRow base e 1 sv n (l.map fun x => (.int .i64 x : Value))) :
  ∃ A c, sv = .slice A l.length c ∧ l.length ≤ c ∧ c ≤ maxLen ∧ IF w base w.heap.size A l := by
 have hn : l.length = n := by have := h.1; rw [List.length_map] at this; omega
 rcases h.2 with ⟨rfl, h0⟩ | ⟨g, cap, cur, rfl, hb, hg, hnc, hcm, hcs, htk⟩
 ·refine ⟨none, 0, ?_, by omega, Nat.zero_le _, fun hl => absurd hl (by omega)⟩
  rw [hn, h0]
 ·refine ⟨some ⟨g, 0, none⟩, cap, by rw [hn], by omega, hcm, fun _ => ⟨g, 0, rfl, hb, (Array.getElem?_eq_some_iff.1 hg).1, fun i x hx => ?_⟩⟩
  have hc := h.cells (g := g) rfl i (.int .i64 x) (by rw [List.getElem?_map, hx]; rfl)
  rw [add_mid] at hc
  exact hc
def firstP {α : Type} (p : α → Bool) : List α → Nat → Int
 | [], _ => -1
 | x :: r, n => if p x then (n : Int) else firstP p r (n + 1)
theorem firstP_any {α : Type} (p : α → Bool) : ∀ (l : List α) (n : Nat), decide (0 ≤ firstP p l n) = l.any p
 | [], _ => by simp [firstP]
 | x :: r, n => by
  unfold firstP
  cases hp : p x
  ·simp only [Bool.false_eq_true, if_false, List.any_cons, hp, Bool.false_or]
   exact firstP_any p r (n + 1)
  ·simp [hp]
theorem firstP_cons {α : Type} (p : α → Bool) (x : α) (r : List α) (n : Nat) : firstP p (x :: r) n = if p x then (n : Int) else firstP p r (n + 1) := rfl
theorem mayFold_congr {f g : Nat → Ex → Bool × Nat} : ∀ (l : List Ex) (c : Nat), (∀ x ∈ l, ∀ c, f c x = g c x) → mayFold f c l = mayFold g c l
 | [], _, _ => rfl
 | x :: r, c, h => by
  unfold mayFold
  rw [h x (by simp) c, mayFold_congr r _ (fun y hy => h y (by simp [hy]))]
theorem mayE_fuel : ∀ (n m d c : Nat) (e : Ex), 13 ≤ n + d → 13 ≤ m + d → mayE n d c e = mayE m d c e := by
 intro n
 induction n with
 | zero =>
  intro m d c e h1 h2
  unfold mayE
  simp [show 12 < d by omega]
 | succ n ih =>
  intro m d c e h1 h2
  by_cases hd : 12 < d
  ·unfold mayE
   simp [hd]
  ·cases m with
   | zero => omega
   | succ m =>
    unfold mayE
    simp only [mayFold_congr e.l (c + 1) (fun x _ c' => ih m (d + 1) c' x (by omega) (by omega))]
theorem mayE_up : ∀ (n d c : Nat) (e : Ex), Hgt n e.l → mayE (n + 1) d c e = mayE n d c e := by
 intro n
 induction n with
 | zero =>
  intro d c e h
  have hl : e.l = [] := h
  unfold mayE
  rw [hl]
  rfl
 | succ n ih =>
  intro d c e h
  unfold mayE
  simp only [mayFold_congr e.l (c + 1) (fun x hx c' => ih (d + 1) c' x (h x hx))]
theorem Hgt.upTo {n : Nat} {l : List Ex} (h : Hgt n l) : ∀ m, n ≤ m → Hgt m l
 | 0, hm => by
  have : n = 0 := by omega
  subst this; exact h
 | m + 1, hm => by
  by_cases he : n = m + 1
  ·subst he; exact h
  ·exact (h.upTo m (by omega)).up m
theorem mayE_ups (d c : Nat) (e : Ex) (n : Nat) (h : Hgt n e.l) : ∀ m, n ≤ m → mayE m d c e = mayE n d c e
 | 0, hm => by
  have : n = 0 := by omega
  subst this; rfl
 | m + 1, hm => by
  by_cases he : n = m + 1
  ·subst he; rfl
  ·rw [mayE_up m d c e (h.upTo m (by omega)), mayE_ups d c e n h m (by omega)]
def mayX (e : Ex) : Bool := may 12 e
theorem may_X (n : Nat) (e : Ex) (h : Hgt n e.l) : may n e = mayX e := by
 unfold may mayX may
 rw [← mayE_ups 1 0 e n h (max n 12) (Nat.le_max_left _ _), mayE_fuel (max n 12) 12 1 0 e (by omega) (by omega)]
structure ExC where
 e : Ex
 A : Option Addr
 c : Nat
def ExC.cells (r : ExC) : List Value := r.e.cells r.A r.c
theorem ExC.cells_length (r : ExC) : r.cells.length = 6 := rfl
def ExC.good (K n : Nat) (w : World) (r : ExC) : Prop := r.e.fit K ∧ r.e.l.length ≤ r.c ∧ r.c ≤ maxLen ∧ ExS K n w w.heap.size r.A r.e.l
theorem ExC.good.below {K n : Nat} {w w' : World} {r : ExC} (h : r.good K n w) (hb : Below w.heap.size w w') : r.good K n w' := ⟨h.1, h.2.1, h.2.2.1, (h.2.2.2.below n hb).more hb.size n⟩
theorem exc_at : ∀ (l : List ExC) (i j : Nat) (v : ExC), l[i]? = some v → j < 6 → (l.flatMap ExC.cells)[i * 6 + j]? = v.cells[j]? := by
 intro l
 induction l with
 | nil => intro i j v h; simp at h
 | cons x r ih =>
  intro i j v h hj
  cases i with
  | zero =>
   simp at h; subst h
   rw [List.flatMap_cons, List.getElem?_append_left (by rw [ExC.cells_length]; omega)]
   simp
  | succ i =>
   rw [List.flatMap_cons, List.getElem?_append_right (by rw [ExC.cells_length]; omega), ExC.cells_length]
   have e : (i + 1) * 6 + j - 6 = i * 6 + j := by omega
   rw [e]
   exact ih i j v (by simpa using h) hj
theorem exc_len (l : List ExC) : (l.flatMap ExC.cells).length = l.length * 6 := by
 induction l with
 | nil => rfl
 | cons x r ih => rw [List.flatMap_cons, List.length_append, ih, ExC.cells_length, List.length_cons]; omega
theorem ExS.own {K m : Nat} {w : World} {base : Nat} {e : TypeId} {sv : Value} {n : Nat} {l : List ExC} (h : w.ownsRow base e 6 sv n (l.flatMap ExC.cells)) (hg : ∀ r ∈ l, r.good K m w) :
  ∃ A c, sv = .slice A (l.map ExC.e).length c ∧ (l.map ExC.e).length ≤ c ∧ c ≤ maxLen ∧ ExS K (m + 1) w w.heap.size A (l.map ExC.e) := by
 have hn : l.length = n := by have := h.1; rw [exc_len] at this; omega
 rw [List.length_map]
 rcases h.2 with ⟨rfl, h0⟩ | ⟨g, cap, cur, rfl, hb, hgg, hnc, hcm, hcs, htk⟩
 ·have hl : l = [] := List.eq_nil_of_length_eq_zero (by omega)
  subst hl
  exact ⟨none, 0, rfl, Nat.le_refl _, Nat.zero_le _, ExS.nil _⟩
 ·refine ⟨some ⟨g, 0, none⟩, cap, by rw [hn], by omega, hcm, fun _ => ⟨g, 0, rfl, (Array.getElem?_eq_some_iff.1 hgg).1, ?_⟩⟩
  intro i x hx
  rw [List.getElem?_map, Option.map_eq_some_iff] at hx
  obtain ⟨r, hr, rfl⟩ := hx
  obtain ⟨h1, h2, h3, h4⟩ := hg r (List.mem_of_getElem? hr)
  have hc := h.cells (g := g) rfl
  have key : ∀ j u, j < 6 → r.cells[j]? = some u → w.cell? ⟨g, 0 + i * 6 + j, none⟩ = some u := by
   intro j u hj hu
   have := hc (i * 6 + j) u (by rw [exc_at l i j r hr hj]; exact hu)
   rw [add_mid] at this
   rw [Nat.add_assoc]
   exact this
  exact ⟨r.A, r.c, h1, h2, h3, ⟨key 0 _ (by omega) rfl, key 1 _ (by omega) rfl, key 2 _ (by omega) rfl, key 3 _ (by omega) rfl, key 4 _ (by omega) rfl, key 5 _ (by omega) rfl⟩, h4⟩
end Go.Proofs.YtchilcchogcibaaGreatDoor
