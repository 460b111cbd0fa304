/- Plain words for tokens: two cells each, slices of them. Nothing of the program stands here. Plain laws on replacing: strings.ReplaceAll of a quote by two, and of two by one, as plain recursions. No program in sight. Plain law: how a text is cut into tokens. No program in sight. -/
import Derived.Test.YtdhjogmkhbpcgaaGreatBase
import Derived.Lib.Replace
import Derived.Test.YtdhjogmkhbpcgaaGreatLex1
namespace Go.Proofs.YtdhjogmkhbpcgaaGreat
open Go.RowKit

structure Tok where
  k : Int
  s : List UInt8

def Tok.cells (t : Tok) : List Value := [.int .i64 t.k, .string ⟨t.s.toArray⟩]
theorem Tok.cells_length (t : Tok) : t.cells.length = 2 := rfl
def TkRow (w : World) (b off : Nat) (l : List Tok) : Prop := ∀ i v, l[i]? = some v → w.cell? ⟨b, off + i * 2, none⟩ = some (.int .i64 v.k) ∧ w.cell? ⟨b, off + i * 2 + 1, none⟩ = some (.string ⟨v.s.toArray⟩)
/-- The slice value '.slice A l.length c' reads as the tokens l, and lies below block B. -/
def TkS (w : World) (B : Nat) (A : Option Addr) (l : List Tok) : Prop := 0 < l.length → ∃ b off, A = some ⟨b, off, none⟩ ∧ b < B ∧ TkRow w b off l
/-- As TkS, with bounds on the block. -/
def TkF (w : World) (lo hi : Nat) (A : Option Addr) (l : List Tok) : Prop := 0 < l.length → ∃ b off, A = some ⟨b, off, none⟩ ∧ lo ≤ b ∧ b < hi ∧ TkRow w b off l
section
variable {w w' : World} {A : Option Addr} {l : List Tok}
theorem TkS.at_ {B : Nat} (h : TkS w B A l) {j : Nat} (hj : j < l.length) :
    ∃ b off v, A = some ⟨b, off, none⟩ ∧ b < B ∧ l[j]? = some v ∧ w.cell? ⟨b, off + j * 2, none⟩ = some (.int .i64 v.k) ∧ w.cell? ⟨b, off + j * 2 + 1, none⟩ = some (.string ⟨v.s.toArray⟩) := by
  obtain ⟨b, off, rfl, hb, hr⟩ := h (by omega)
  have hv : l[j]? = some l[j] := List.getElem?_eq_getElem hj
  obtain ⟨h0, h1⟩ := hr j _ hv
  exact ⟨b, off, l[j], rfl, hb, hv, h0, h1⟩
theorem TkRow.keep {b off : Nat} (h : TkRow w b off l) (hk : ∀ o, w'.cell? ⟨b, o, none⟩ = w.cell? ⟨b, o, none⟩) : TkRow w' b off l := by
  intro i v hv
  obtain ⟨h0, h1⟩ := h i v hv
  exact ⟨(hk _).trans h0, (hk _).trans h1⟩
theorem TkS.below {B : Nat} (h : TkS w B A l) (hb : Below B w w') : TkS w' B A l := fun hl => by
  obtain ⟨b, off, rfl, hbB, hr⟩ := h hl
  exact ⟨b, off, rfl, hbB, hr.keep fun o => hb.cell (p := ⟨b, o, none⟩) hbB⟩
theorem TkS.more {B B' : Nat} (h : TkS w B A l) (hB : B ≤ B') : TkS w B' A l := fun hl => by
  obtain ⟨b, off, rfl, hbB, hr⟩ := h hl
  exact ⟨b, off, rfl, by omega, hr⟩
theorem TkS.nil {B : Nat} : TkS w B A [] := fun h => absurd h (by simp)
theorem TkF.nil {lo hi : Nat} : TkF w lo hi A [] := fun h => absurd h (by simp)
theorem TkF.vs {lo hi B : Nat} (h : TkF w lo hi A l) (hB : hi ≤ B) : TkS w B A l := fun hl => by
  obtain ⟨b, off, rfl, _, h2, h3⟩ := h hl
  exact ⟨b, off, rfl, by omega, h3⟩
theorem TkF.below {lo hi B : Nat} (h : TkF w lo hi A l) (hb : Below B w w') (hB : hi ≤ B) : TkF w' lo hi A l := fun hl => by
  obtain ⟨b, off, rfl, h1, h2, h3⟩ := h hl
  exact ⟨b, off, rfl, h1, h2, h3.keep fun o => hb.cell (p := ⟨b, o, none⟩) (by show b < B; omega)⟩
end

theorem tk_at : ∀ (l : List Tok) (i j : Nat) (v : Tok), l[i]? = some v → j < 2 → (l.flatMap Tok.cells)[i * 2 + j]? = v.cells[j]? := by
  intro l
  induction l with
  | nil => intro i j v h; simp at h
  | cons x r ih =>
    intro i j v h hj
    cases i with
    | zero =>
      simp at h; subst h
      rw [List.flatMap_cons, List.getElem?_append_left (by rw [Tok.cells_length]; omega)]
      simp
    | succ i =>
      rw [List.flatMap_cons, List.getElem?_append_right (by rw [Tok.cells_length]; omega), Tok.cells_length]
      have e : (i + 1) * 2 + j - 2 = i * 2 + j := by omega
      rw [e]
      exact ih i j v (by simpa using h) hj
theorem tk_len (l : List Tok) : (l.flatMap Tok.cells).length = l.length * 2 := by
  induction l with
  | nil => rfl
  | cons x r ih => rw [List.flatMap_cons, List.length_append, ih, Tok.cells_length, List.length_cons]; omega
theorem tk_one (l : List Tok) : ∀ u ∈ l.flatMap Tok.cells, u.oneCell' = true := by
  intro u hu
  rw [List.mem_flatMap] at hu
  obtain ⟨v, _, hv⟩ := hu
  simp only [Tok.cells, List.mem_cons, List.not_mem_nil, or_false] at hv
  rcases hv with rfl | rfl <;> rfl
theorem TkS.own {w : World} {base : Nat} {e : TypeId} {sv : Value} {n : Nat} {l : List Tok} (h : w.ownsRow base e 2 sv n (l.flatMap Tok.cells)) :
    ∃ A c, sv = .slice A l.length c ∧ l.length ≤ c ∧ c ≤ maxLen ∧ TkF w base w.heap.size A l := by
  have hn : l.length = n := by have := h.1; rw [tk_len] at this; omega
  rcases h.2 with ⟨rfl, h0⟩ | ⟨g, cap, cur, rfl, hb, hg, hnc, hcm, hcs, htk⟩
  · refine ⟨none, 0, ?_, by omega, Nat.zero_le _, fun hl => absurd hl (by omega)⟩
    rw [hn, h0]
  · refine ⟨some ⟨g, 0, none⟩, cap, by rw [hn], by omega, hcm, fun _ => ⟨g, 0, rfl, hb, ?_, ?_⟩⟩
    · exact (Array.getElem?_eq_some_iff.1 hg).1
    · intro i v hv
      have hc := h.cells (g := g) rfl
      have key : ∀ j u, j < 2 → v.cells[j]? = some u → w.cell? ⟨g, 0 + i * 2 + j, none⟩ = some u := by
        intro j u hj hu
        have := hc (i * 2 + j) u (by rw [tk_at l i j v hv hj]; exact hu)
        rw [add_mid] at this
        rw [Nat.add_assoc]
        exact this
      exact ⟨key 0 _ (by omega) rfl, key 1 _ (by omega) rfl⟩
theorem tk_block {w : World} {g : Nat} {e : TypeId} {l : List Tok} (h : Blk w g e (l.flatMap Tok.cells).toArray) : TkS w w.heap.size (some ⟨g, 0, none⟩) l := by
  intro _
  refine ⟨g, 0, rfl, h.lt, fun i v hv => ?_⟩
  have key : ∀ j u, j < 2 → v.cells[j]? = some u → w.cell? ⟨g, 0 + i * 2 + j, none⟩ = some u := by
    intro j u hj hu
    rw [h.cell, List.getElem?_toArray, Nat.zero_add, tk_at l i j v hv hj]
    exact hu
  exact ⟨key 0 _ (by omega) rfl, key 1 _ (by omega) rfl⟩
/-- What a call leaves that answers tokens, in memory of its own, and an error. -/
def RetTk (l : List Tok) (n : Int) (w : World) (e : Ending) (w' : World) : Prop :=
  ∃ A c, e = .returned (.tuple #[.slice A l.length c, .int .i64 n]) ∧ l.length ≤ c ∧ c ≤ maxLen ∧ TkF w' w.heap.size w'.heap.size A l ∧ Below w.heap.size w w'

end Go.Proofs.YtdhjogmkhbpcgaaGreat

namespace Go.Proofs.YtdhjogmkhbpcgaaGreat
open Go

section
variable (old new : List UInt8)
theorem index_yes (b : UInt8) (l : List UInt8) (h : old.isPrefixOf (b :: l) = true) : Lib.index (b :: l) old = ((0 : Nat) : Int) := by rw [Lib.index, if_pos h]; rfl
theorem index_no (b : UInt8) (l : List UInt8) (h : old.isPrefixOf (b :: l) = false) : Lib.index (b :: l) old = if Lib.index l old == -1 then -1 else Lib.index l old + 1 := by rw [Lib.index, h]; simp
theorem count_no (b : UInt8) (l : List UInt8) (h0 : old ≠ []) (h : old.isPrefixOf (b :: l) = false) : Lib.count (b :: l) old = Lib.count l old := by
  have hi := index_no old b l h
  by_cases hm : Lib.index l old = -1
  · rw [Lib.count_miss hm, Lib.count_miss (by rw [hi, hm]; rfl)]
  · have hge := Lib.index_ge l old
    obtain ⟨i, e⟩ : ∃ i : Nat, Lib.index l old = i := ⟨(Lib.index l old).toNat, by omega⟩
    have e2 : Lib.index (b :: l) old = ((i + 1 : Nat) : Int) := by rw [hi, e, if_neg (by simp)]; rfl
    rw [Lib.count_hit h0 e, Lib.count_hit h0 e2]
    congr 2
    rw [show i + 1 + old.length = (i + old.length) + 1 by omega, List.drop_succ_cons]
theorem rep_no (b : UInt8) (l : List UInt8) (h : old.isPrefixOf (b :: l) = false) : ∀ k, Lib.replaceK old new k (b :: l) = b :: Lib.replaceK old new k l
  | 0 => rfl
  | k + 1 => by
    have hi := index_no old b l h
    by_cases hm : Lib.index l old = -1
    · rw [Lib.replaceK, Lib.replaceK, hi, hm]; simp
    · have hge := Lib.index_ge l old
      obtain ⟨i, e⟩ : ∃ i : Nat, Lib.index l old = i := ⟨(Lib.index l old).toNat, by omega⟩
      have e2 : Lib.index (b :: l) old = ((i + 1 : Nat) : Int) := by rw [hi, e, if_neg (by simp)]; rfl
      rw [Lib.replaceK_hit _ _ _ _ _ e, Lib.replaceK_hit _ _ _ _ _ e2, show i + 1 + old.length = (i + old.length) + 1 by omega, List.drop_succ_cons]
      simp
theorem rep_yes (b : UInt8) (l : List UInt8) (h0 : old ≠ []) (h : old.isPrefixOf (b :: l) = true) :
    Lib.replaceK old new (Lib.count (b :: l) old) (b :: l) = new ++ Lib.replaceK old new (Lib.count ((b :: l).drop old.length) old) ((b :: l).drop old.length) := by
  have e := index_yes old b l h
  rw [Lib.count_hit h0 e, Nat.add_comm, Lib.replaceK_hit _ _ _ _ _ e]
  simp
theorem rep_nil (h0 : old ≠ []) : Lib.replaceK old new (Lib.count [] old) [] = [] := by
  rw [Lib.count_miss (by cases old <;> simp_all [Lib.index])]; rfl
theorem replaceAll_eq (s : List UInt8) (h : (old == new) = false) : Lib.replaceAll s old new = Lib.replaceK old new (Lib.count s old) s := by
  unfold Lib.replaceAll Lib.replace Lib.replaceNum
  rw [h, if_pos (Or.inl (by decide))]; rfl
end

/-- Each quote twice. -/
def quoteS : List UInt8 → List UInt8
  | [] => []
  | c :: r => if c = 39 then 39 :: 39 :: quoteS r else c :: quoteS r
theorem replace_quote (s : List UInt8) : Lib.replaceAll s [39] [39, 39] = quoteS s := by
  rw [replaceAll_eq _ _ _ (by decide)]
  induction s with
  | nil => exact rep_nil _ _ (by simp)
  | cons c r ih =>
    by_cases h : c = 39
    · subst h
      rw [rep_yes _ _ _ _ (by simp) (by simp [List.isPrefixOf])]
      simp only [List.length_cons, List.length_nil, List.drop_succ_cons, List.drop_zero, Nat.zero_add]
      rw [ih]; simp [quoteS]
    · have hp : ([39] : List UInt8).isPrefixOf (c :: r) = false := by simp [List.isPrefixOf]; exact fun e => h e.symm
      rw [count_no _ _ _ (by simp) hp, rep_no _ _ _ _ hp, ih]; simp [quoteS, h]
/-- Two quotes are one. -/
def unquoteS : List UInt8 → List UInt8
  | [] => []
  | [c] => [c]
  | c :: d :: r => if c = 39 ∧ d = 39 then 39 :: unquoteS r else c :: unquoteS (d :: r)
theorem replace_unquote : ∀ (n : Nat) (s : List UInt8), s.length ≤ n → Lib.replaceAll s [39, 39] [39] = unquoteS s := by
  intro n
  induction n with
  | zero =>
    intro s hs
    rw [replaceAll_eq _ _ _ (by decide)]
    obtain rfl : s = [] := List.eq_nil_of_length_eq_zero (by omega)
    exact rep_nil _ _ (by simp)
  | succ n ih =>
    intro s hs
    match s, hs with
    | [], _ => rw [replaceAll_eq _ _ _ (by decide)]; exact rep_nil _ _ (by simp)
    | [c], _ =>
      have hp : ([39, 39] : List UInt8).isPrefixOf [c] = false := by simp [List.isPrefixOf]
      rw [replaceAll_eq _ _ _ (by decide), count_no _ _ _ (by simp) hp, rep_no _ _ _ _ hp, rep_nil _ _ (by simp)]; rfl
    | c :: d :: r, hs =>
      by_cases h : c = 39 ∧ d = 39
      · obtain ⟨rfl, rfl⟩ := h
        have e := ih r (by simp at hs; omega)
        rw [replaceAll_eq _ _ _ (by decide)] at e ⊢
        rw [rep_yes _ _ _ _ (by simp) (by simp [List.isPrefixOf])]
        simp only [List.length_cons, List.length_nil, List.drop_succ_cons, List.drop_zero, Nat.zero_add]
        rw [e]; simp [unquoteS]
      · have hp : ([39, 39] : List UInt8).isPrefixOf (c :: d :: r) = false := by
          simp [List.isPrefixOf]; intro e1 e2; exact h ⟨e1.symm, e2.symm⟩
        have e := ih (d :: r) (by simp at hs ⊢; omega)
        rw [replaceAll_eq _ _ _ (by decide)] at e ⊢
        rw [count_no _ _ _ (by simp) hp, rep_no _ _ _ _ hp, e]; simp [unquoteS, h]
theorem quoteS_len (s : List UInt8) : (quoteS s).length ≤ 2 * s.length := by
  induction s with
  | nil => simp [quoteS]
  | cons c r ih => unfold quoteS; split <;> simp <;> omega
theorem unquote_quote (s : List UInt8) : unquoteS (quoteS s) = s := by
  induction s with
  | nil => rfl
  | cons c r ih =>
    by_cases h : c = 39
    · subst h; simp [quoteS, unquoteS, ih]
    · have : quoteS (c :: r) = c :: quoteS r := by simp [quoteS, h]
      rw [this]
      cases hq : quoteS r with
      | nil => rw [hq] at ih; simp [unquoteS] at ih ⊢; exact ih
      | cons d t => rw [hq] at ih; rw [unquoteS, if_neg (by simp [h]), ih]

end Go.Proofs.YtdhjogmkhbpcgaaGreat

namespace Go.Proofs.YtdhjogmkhbpcgaaGreat
open Go.RowKit

def signL : List UInt8 := [40, 41, 44, 61, 60, 43, 45, 42]
def signB (c : UInt8) : Bool := decide (0 ≤ Lib.indexByte signL c)
def runB (m : Nat) (f g : UInt8 → Bool) (s : List UInt8) : Bool := decide (1 ≤ s.length) && decide (s.length ≤ m) && (lenRun f g s == s.length)
def oneSign : List UInt8 → Bool
  | [c] => signB c
  | _ => false
/-- May a token be? -/
def mayT (t : Tok) : Bool :=
  if t.k = 3 then mayB 2 0 t.s else if t.k = 4 then oneSign t.s
  else if t.k = 1 then runB 16 letB partB t.s else if t.k = 2 then runB 19 digB digB t.s else false

/-- Where the sign is that ends a text between signs, from a place on; none: nowhere. -/
def endQ : List UInt8 → Nat → Option Nat
  | [], _ => none
  | [c], n => if c.toNat = 39 then some n else none
  | c :: d :: r, n => if c.toNat = 39 then (if d.toNat = 39 then endQ r (n + 2) else some n) else endQ (d :: r) (n + 1)
def quotedT (s : List UInt8) : Tok × Nat := match endQ (s.drop 1) 1 with | none => (⟨0, []⟩, 0) | some n => (⟨3, unquoteS ((s.take n).drop 1)⟩, n + 1)
/-- The token with which a text begins, and how many octets it takes. -/
def firstT (s : List UInt8) : Tok × Nat :=
  if 0 < lenRun letB partB s then (⟨1, s.take (lenRun letB partB s)⟩, lenRun letB partB s)
  else if 0 < lenRun digB digB s then (⟨2, s.take (lenRun digB digB s)⟩, lenRun digB digB s)
  else match s with | [] => (⟨4, []⟩, 1) | c :: r => if c.toNat = 39 then quotedT (c :: r) else (⟨4, [c]⟩, 1)
def blankB (c : UInt8) : Bool := c.toNat == 32 || c.toNat == 10
/-- The tokens of a text, behind those that there are; at most n steps. -/
def cutA : Nat → List UInt8 → List Tok → Option (List Tok)
  | _, [], l => some l
  | 0, _ :: _, _ => none
  | n + 1, c :: r, l => if blankB c then cutA n r l else if mayT (firstT (c :: r)).1 && decide (l.length ≠ 400) then cutA n ((c :: r).drop (firstT (c :: r)).2) (l ++ [(firstT (c :: r)).1]) else none
def cutT (s : List UInt8) : Option (List Tok) := cutA s.length s []

end Go.Proofs.YtdhjogmkhbpcgaaGreat
