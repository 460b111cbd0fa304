/- Expressions whose memory lies in blocks of a kind; caddislaw04.Cols; Plain words for slices of numbers; caddislaw04.few and Few; Contracts of expr.May, expr.Eval, expr.Type for an expression in memory, at any later world; plain laws on what an expression comes to.; slices.Clone at columns, numbers, references, expressions, and rows; Plain laws on writing tokens; Plain law; value.Parse as a plain function; lexer.Is, and the parser's take and taken, as plain functions; Rows of octets that a call makes itself, and their texts; Rows that a call owns, known whole; How arguments of the laws are opened; How arguments of the laws are opened; How arguments of the laws are opened. -/
import Derived.Deep.CutBlock
import Derived.Maps.AppendAt
import Derived.Deep.DeepCutAuto
import Derived.RegionTactic
import Derived.Deep.RegionHeld3
import Derived.WideKeyEntry
import Derived.WideMake
import Derived.MapKept
import Derived.Laws.EntriesVeiled
import Derived.Lib.SliceRun
import Derived.Lib.ItoaNum
import Derived.Shelf.Strconv.ErrVarParseInt
import Derived.Lib.AtoiAllCases
import Derived.Lib.ParseIntBTie
import Derived.Shelf.LaysM
import Derived.Shelf.LaysC
import Derived.Shelf.Strconv.ParseIntPublic10
import Derived.Test.YtchilcchogcibaaGreatDoorProg
import Derived.Lib.AppendStr
import Derived.Laws.BytesArg
import Derived.Laws.CopyRow
import Derived.Lib.Overlaps
import Derived.Lib.AppendZeros
import Derived.Lib.AppendZerosOnto
import Derived.Test.YtchilcchogcibaaGreatDoorRows
import Derived.Lib.SmallJoins
import Derived.OpenShut
import Derived.ShutString
import Derived.ChangeOld
import Derived.Test.YtchilcchogcibaaGreatDoorSAppend
import Derived.Test.YtchilcchogcibaaGreatDoorSCut3
import Derived.Test.YtchilcchogcibaaGreatDoorSExpr2
import Derived.Test.YtchilcchogcibaaGreatDoorSLex1
import Derived.Test.YtchilcchogcibaaGreatDoorSMay
import Derived.Test.YtchilcchogcibaaGreatDoorSStage2
namespace Go.Proofs.YtchilcchogcibaaGreatDoor
open Go.RowKit
/-- No expression. -/
def exZero : Ex := .mk [] V.zero [] []
theorem exZero_fit : exZero.fit 1000 := ⟨⟨by simp [exZero, Ex.v, V.zero], by simp [exZero, Ex.v, V.zero]⟩, by simp [exZero, Ex.op], by simp [exZero, Ex.s], by simp [exZero, Ex.v, V.zero]⟩
/-- As ExS; each block that the tree reaches is of the kind Q. -/
def ExQ (K : Nat) : Nat → World → (Nat → Prop) → Option Addr → List Ex → Prop
 | 0, _, _, _, l => l = []
 | n + 1, w, Q, A, l => 0 < l.length → ∃ b off, A = some ⟨b, off, none⟩ ∧ Q b ∧ ∀ i e, l[i]? = some e →
   ∃ A' c', e.fit K ∧ e.l.length ≤ c' ∧ c' ≤ maxLen ∧ Six w b (off + i * 6) e A' c' ∧ ExQ K n w Q A' e.l
theorem ExQ.nil {K : Nat} {w : World} {Q : Nat → Prop} {A : Option Addr} : ∀ n, ExQ K n w Q A []
 | 0 => rfl
 | _ + 1 => fun h => absurd h (by simp)
theorem ExQ.keep {K : Nat} {w w' : World} {Q Q' : Nat → Prop} (hk : ∀ b, Q b → Q' b ∧ ∀ o, w'.cell? ⟨b, o, none⟩ = w.cell? ⟨b, o, none⟩) : ∀ (n : Nat) {A : Option Addr} {l : List Ex}, ExQ K n w Q A l → ExQ K n w' Q' A l
 | 0, _, _, h => h
 | n + 1, _, _, h => fun hl => by
  obtain ⟨b, off, rfl, hb, hr⟩ := h hl
  refine ⟨b, off, rfl, (hk b hb).1, fun i e he => ?_⟩
  obtain ⟨A', c', hf, h1, h2, h3, h4⟩ := hr i e he
  exact ⟨A', c', hf, h1, h2, h3.keep (hk b hb).2, h4.keep hk n⟩
theorem ExQ.toS {K : Nat} {w : World} {Q : Nat → Prop} {B : Nat} (hk : ∀ b, Q b → b < B) : ∀ (n : Nat) {A : Option Addr} {l : List Ex}, ExQ K n w Q A l → ExS K n w B A l
 | 0, _, _, h => h
 | n + 1, _, _, h => fun hl => by
  obtain ⟨b, off, rfl, hb, hr⟩ := h hl
  refine ⟨b, off, rfl, hk b hb, fun i e he => ?_⟩
  obtain ⟨A', c', hf, h1, h2, h3, h4⟩ := hr i e he
  exact ⟨A', c', hf, h1, h2, h3, h4.toS hk n⟩
theorem ExQ.up {K : Nat} {w : World} {Q : Nat → Prop} : ∀ (n : Nat) {A : Option Addr} {l : List Ex}, ExQ K n w Q A l → ExQ K (n + 1) w Q A l
 | 0, _, _, h => by cases h; exact ExQ.nil 1
 | n + 1, _, _, h => fun hl => by
  obtain ⟨b, off, rfl, hb, hr⟩ := h hl
  refine ⟨b, off, rfl, hb, fun i e he => ?_⟩
  obtain ⟨A', c', hf, h1, h2, h3, h4⟩ := hr i e he
  exact ⟨A', c', hf, h1, h2, h3, h4.up n⟩
theorem ExQ.ups {K : Nat} {w : World} {Q : Nat → Prop} {A : Option Addr} {l : List Ex} {n : Nat} (h : ExQ K n w Q A l) : ∀ m, n ≤ m → ExQ K m w Q A l
 | 0, hm => by
  have : n = 0 := by omega
  subst this; exact h
 | m + 1, hm => by
  by_cases e : n = m + 1
  ·subst e; exact h
  ·exact (h.ups m (by omega)).up m
theorem exQ_one {K : Nat} {w : World} {Q : Nat → Prop} {g n : Nat} {t : TypeId} {e : Ex} {A : Option Addr} {c : Nat} (h : Blk w g t (e.cells A c).toArray) (hq : Q g) (hf : e.fit K) (h1 : e.l.length ≤ c) (h2 : c ≤ maxLen) (h3 : ExQ K n w Q A e.l) :
  ExQ K (n + 1) w Q (some ⟨g, 0, none⟩) [e] := fun _ => by
 refine ⟨g, 0, rfl, hq, fun i x hx => ?_⟩
 match i, hx with
 | 0, hx =>
  simp at hx; subst hx
  exact ⟨A, c, hf, h1, h2, ⟨h.cell 0, h.cell 1, h.cell 2, h.cell 3, h.cell 4, h.cell 5⟩, h3⟩
theorem exQ_two {K : Nat} {w : World} {Q : Nat → Prop} {g n : Nat} {t : TypeId} {e e' : Ex} {A A' : Option Addr} {c c' : Nat} (h : Blk w g t (e.cells A c ++ e'.cells A' c').toArray) (hq : Q g) (hf : e.fit K) (h1 : e.l.length ≤ c) (h2 : c ≤ maxLen) (h3 : ExQ K n w Q A e.l)
  (hf' : e'.fit K) (h1' : e'.l.length ≤ c') (h2' : c' ≤ maxLen) (h3' : ExQ K n w Q A' e'.l) : ExQ K (n + 1) w Q (some ⟨g, 0, none⟩) [e, e'] := fun _ => by
 refine ⟨g, 0, rfl, hq, fun i x hx => ?_⟩
 match i, hx with
 | 0, hx =>
  simp at hx; subst hx
  exact ⟨A, c, hf, h1, h2, ⟨h.cell 0, h.cell 1, h.cell 2, h.cell 3, h.cell 4, h.cell 5⟩, h3⟩
 | 1, hx =>
  simp at hx; subst hx
  exact ⟨A', c', hf', h1', h2', ⟨h.cell 6, h.cell 7, h.cell 8, h.cell 9, h.cell 10, h.cell 11⟩, h3'⟩
/-- An expression that a call answers: its parts lie in blocks of the kind Q. -/
def ExR (Q : Nat → Prop) (e : Ex) (A : Option Addr) (c : Nat) (w : World) : Prop := e.fit 1000 ∧ e.l.length ≤ c ∧ c ≤ maxLen ∧ ∃ n, ExQ 1000 n w Q A e.l
theorem ExR.keep {Q Q' : Nat → Prop} {e : Ex} {A : Option Addr} {c : Nat} {w w' : World} (h : ExR Q e A c w) (hk : ∀ b, Q b → Q' b ∧ ∀ o, w'.cell? ⟨b, o, none⟩ = w.cell? ⟨b, o, none⟩) : ExR Q' e A c w' := by
 obtain ⟨h1, h2, h3, n, h4⟩ := h
 exact ⟨h1, h2, h3, n, h4.keep hk n⟩
theorem ExR.two {Q : Nat → Prop} {op : List UInt8} {e e' : Ex} {A A' : Option Addr} {c c' g : Nat} {t : TypeId} {w : World} (h : ExR Q e A c w) (h' : ExR Q e' A' c' w) (k : Blk w g t (e.cells A c ++ e'.cells A' c').toArray) (hq : Q g) (ho : op.length ≤ 1000) :
  ExR Q (.mk op V.zero [] [e, e']) (some ⟨g, 0, none⟩) 2 w := by
 obtain ⟨h1, h2, h3, n, h4⟩ := h
 obtain ⟨h1', h2', h3', n', h4'⟩ := h'
 refine ⟨⟨⟨by simp [Ex.v, V.zero], by simp [Ex.v, V.zero]⟩, ho, by simp [Ex.s], by simp [Ex.v, V.zero]⟩, by simp [Ex.l], by unfold maxLen; omega, max n n' + 1, ?_⟩
 exact exQ_two k hq h1 h2 h3 (h4.ups _ (Nat.le_max_left _ _)) h1' h2' h3' (h4'.ups _ (Nat.le_max_right _ _))
theorem ExR.one {Q : Nat → Prop} {op : List UInt8} {e : Ex} {A : Option Addr} {c g : Nat} {t : TypeId} {w : World} (h : ExR Q e A c w) (k : Blk w g t (e.cells A c).toArray) (hq : Q g) (ho : op.length ≤ 1000) :
  ExR Q (.mk op V.zero [] [e]) (some ⟨g, 0, none⟩) 1 w := by
 obtain ⟨h1, h2, h3, n, h4⟩ := h
 exact ⟨⟨⟨by simp [Ex.v, V.zero], by simp [Ex.v, V.zero]⟩, ho, by simp [Ex.s], by simp [Ex.v, V.zero]⟩, by simp [Ex.l], by unfold maxLen; omega, n + 1, exQ_one k hq h1 h2 h3 h4⟩
theorem But.cell {p : Nat} {w w' : World} (h : But p w w') {b : Nat} (hb : b < w.heap.size) (hp : b ≠ p) (o : Nat) : w'.cell? ⟨b, o, none⟩ = w.cell? ⟨b, o, none⟩ := by
 have hk := h.block b hb hp
 unfold World.cell?
 simp only [hk]
theorem But.own {p : Nat} {a w : World} (h : But p a w) {g : Nat} (hg : a.heap.size ≤ g) (i : Nat) (u : Value) : But p a (w.setCell ⟨g, i, none⟩ u) := by
 have hb : Below 0 w (w.setCell ⟨g, i, none⟩ u) := by exact bl
 exact ⟨hb.os.trans h.os, hb.tape.trans h.tape, hb.output.trans h.output, Nat.le_trans h.size hb.size, fun k hk hp => (Below.heap_setCell w ⟨g, i, none⟩ u k (show k ≠ g by omega)).trans (h.block k hk hp)⟩
end Go.Proofs.YtchilcchogcibaaGreatDoor
namespace Go.Proofs.YtchilcchogcibaaGreatDoor
open Go.RowKit
attribute [local go_sem] ByteArray.extract_mk ba_get
attribute [local go_sem ↓] Go.wp_at_zero Go.wp_at_succ
theorem Col.cells_length (v : Col) : v.cells.length = 3 := rfl
theorem col_at : ∀ (l : List Col) (i j : Nat) (v : Col), l[i]? = some v → j < 3 → (l.flatMap Col.cells)[i * 3 + j]? = v.cells[j]? := by
 intro l
 induction l with
 | nil => intro i j v h; simp at h
 | cons x r ih =>
  intro i j v h hj
  cases i with
  | zero =>
   simp at h; subst h
   rw [List.flatMap_cons, List.getElem?_append_left (by rw [Col.cells_length]; omega)]
   simp
  | succ i =>
   rw [List.flatMap_cons, List.getElem?_append_right (by rw [Col.cells_length]; omega), Col.cells_length]
   have e : (i + 1) * 3 + j - 3 = i * 3 + j := by omega
   rw [e]
   exact ih i j v (by simpa using h) hj
theorem col_len (l : List Col) : (l.flatMap Col.cells).length = l.length * 3 := by
 induction l with
 | nil => rfl
 | cons x r ih => rw [List.flatMap_cons, List.length_append, ih, Col.cells_length, List.length_cons]; omega
/-- As ColS, with bounds on the block. -/
def ColF (w : World) (lo hi : Nat) (A : Option Addr) (l : List Col) : Prop := 0 < l.length → ∃ b off, A = some ⟨b, off, none⟩ ∧ lo ≤ b ∧ b < hi ∧ ColRow w b off l
theorem ColF.s {w : World} {lo hi : Nat} {A : Option Addr} {l : List Col} (h : ColF w lo hi A l) {B : Nat} (hB : hi ≤ B) : ColS w B A l := fun hl => by
 obtain ⟨b, off, rfl, _, h2, h3⟩ := h hl
 exact ⟨b, off, rfl, by omega, h3⟩
theorem ColRow.keep {w w' : World} {b off : Nat} {l : List Col} (h : ColRow w b off l) (hk : ∀ o, w'.cell? ⟨b, o, none⟩ = w.cell? ⟨b, o, none⟩) : ColRow w' b off l := by
 intro i v hv
 obtain ⟨h0, h1, h2⟩ := h i v hv
 exact ⟨(hk _).trans h0, (hk _).trans h1, (hk _).trans h2⟩
theorem ColF.keep {w w' : World} {lo hi lo' hi' : Nat} {A : Option Addr} {l : List Col} (h : ColF w lo hi A l) (hk : ∀ b, lo ≤ b → b < hi → (lo' ≤ b ∧ b < hi') ∧ ∀ o, w'.cell? ⟨b, o, none⟩ = w.cell? ⟨b, o, none⟩) : ColF w' lo' hi' A l := fun hl => by
 obtain ⟨b, off, rfl, h1, h2, h3⟩ := h hl
 exact ⟨b, off, rfl, (hk b h1 h2).1.1, (hk b h1 h2).1.2, h3.keep (hk b h1 h2).2⟩
theorem ColF.own {w : World} {base : Nat} {e : TypeId} {sv : Value} {n : Nat} {l : List Col} (h : w.ownsRow base e 3 sv n (l.flatMap Col.cells)) :
  ∃ A c, sv = .slice A l.length c ∧ l.length ≤ c ∧ c ≤ maxLen ∧ ColF w base w.heap.size A l := by
 have hn : l.length = n := by have := h.1; rw [col_len] at this; omega
 rcases h.2 with ⟨rfl, h0⟩ | ⟨g, cap, cur, rfl, hb, hg, hnc, hcm, hcs, htk⟩
 ·refine ⟨none, 0, ?_, by omega, Nat.zero_le _, fun hl => absurd hl (by omega)⟩
  rw [hn, h0]
 ·refine ⟨some ⟨g, 0, none⟩, cap, by rw [hn], by omega, hcm, fun _ => ⟨g, 0, rfl, hb, ?_, ?_⟩⟩
  ·exact (Array.getElem?_eq_some_iff.1 hg).1
  ·intro i v hv
   have hc := h.cells (g := g) rfl
   have key : ∀ j u, j < 3 → v.cells[j]? = some u → w.cell? ⟨g, 0 + i * 3 + j, none⟩ = some u := by
    intro j u hj hu
    have := hc (i * 3 + j) u (by rw [col_at l i j v hv hj]; exact hu)
    rw [add_mid] at this
    rw [Nat.add_assoc]
    exact this
   exact ⟨key 0 _ (by omega) rfl, key 1 _ (by omega) rfl, key 2 _ (by omega) rfl⟩
end Go.Proofs.YtchilcchogcibaaGreatDoor
namespace Go.Proofs.YtchilcchogcibaaGreatDoor
open Go.RowKit
/-- The slice value '.slice A l.length c' reads as the numbers l, and lies below block B. -/
def IS (w : World) (B : Nat) (A : Option Addr) (l : List Int) : Prop := 0 < l.length → ∃ b off, A = some ⟨b, off, none⟩ ∧ b < B ∧ ∀ i x, l[i]? = some x → w.cell? ⟨b, off + i, none⟩ = some (.int .i64 x)
/-- As IS, with bounds on the block. -/
def IF (w : World) (lo hi : Nat) (A : Option Addr) (l : List Int) : Prop := 0 < l.length → ∃ b off, A = some ⟨b, off, none⟩ ∧ lo ≤ b ∧ b < hi ∧ ∀ i x, l[i]? = some x → w.cell? ⟨b, off + i, none⟩ = some (.int .i64 x)
theorem IF.s {w : World} {lo hi : Nat} {A : Option Addr} {l : List Int} (h : IF w lo hi A l) {B : Nat} (hB : hi ≤ B) : IS w B A l := fun hl => by
 obtain ⟨b, off, rfl, _, h2, h3⟩ := h hl
 exact ⟨b, off, rfl, by omega, h3⟩
theorem IF.keep {w w' : World} {lo hi lo' hi' : Nat} {A : Option Addr} {l : List Int} (h : IF w lo hi A l) (hk : ∀ b, lo ≤ b → b < hi → (lo' ≤ b ∧ b < hi') ∧ ∀ o, w'.cell? ⟨b, o, none⟩ = w.cell? ⟨b, o, none⟩) : IF w' lo' hi' A l := fun hl => by
 obtain ⟨b, off, rfl, h1, h2, h3⟩ := h hl
 exact ⟨b, off, rfl, (hk b h1 h2).1.1, (hk b h1 h2).1.2, fun i x hx => ((hk b h1 h2).2 _).trans (h3 i x hx)⟩
theorem IS.below {w w' : World} {B : Nat} {A : Option Addr} {l : List Int} (h : IS w B A l) (hb : Below B w w') : IS w' B A l := fun hl => by
 obtain ⟨b, off, rfl, hbB, hr⟩ := h hl
 exact ⟨b, off, rfl, hbB, fun i x hx => (hb.cell (p := ⟨b, off + i, none⟩) hbB).trans (hr i x hx)⟩
theorem IS.more {w : World} {B B' : Nat} {A : Option Addr} {l : List Int} (h : IS w B A l) (hB : B ≤ B') : IS w B' A l := fun hl => by
 obtain ⟨b, off, rfl, hbB, hr⟩ := h hl
 exact ⟨b, off, rfl, by omega, hr⟩
theorem IS.nil {w : World} {B : Nat} {A : Option Addr} : IS w B A [] := fun h => absurd h (by simp)
theorem IS.at_ {w : World} {B : Nat} {A : Option Addr} {l : List Int} (h : IS w B A l) {j : Nat} (hj : j < l.length) :
  ∃ b off x, A = some ⟨b, off, none⟩ ∧ b < B ∧ l[j]? = some x ∧ w.cell? ⟨b, off + j, none⟩ = some (.int .i64 x) := by
 obtain ⟨b, off, rfl, hb, hr⟩ := h (by omega)
 exact ⟨b, off, l[j], rfl, hb, List.getElem?_eq_getElem hj, hr j _ (List.getElem?_eq_getElem hj)⟩
theorem IF.own {w : World} {base : Nat} {e : TypeId} {sv : Value} {n : Nat} {l : List Int} (h : w.ownsRow base e 1 sv n (l.map fun x => (.int .i64 x : Value))) :
  ∃ A c, sv = .slice A l.length c ∧ l.length ≤ c ∧ c ≤ maxLen ∧ IF w base w.heap.size A l := by
 have hn : l.length = n := by have := h.1; rw [List.length_map] at this; omega
 rcases h.2 with ⟨rfl, h0⟩ | ⟨g, cap, cur, rfl, hb, hg, hnc, hcm, hcs, htk⟩
 ·refine ⟨none, 0, ?_, by omega, Nat.zero_le _, fun hl => absurd hl (by omega)⟩
  rw [hn, h0]
 ·refine ⟨some ⟨g, 0, none⟩, cap, by rw [hn], by omega, hcm, fun _ => ⟨g, 0, rfl, hb, (Array.getElem?_eq_some_iff.1 hg).1, fun i x hx => ?_⟩⟩
  have hc := h.cells (g := g) rfl i (.int .i64 x) (by rw [List.getElem?_map, hx]; rfl)
  rw [add_mid] at hc
  exact hc
/-- The first place, from n on, where a thing is of a kind; -1: there is none. -/
def firstP {α : Type} (p : α → Bool) : List α → Nat → Int
 | [], _ => -1
 | x :: r, n => if p x then (n : Int) else firstP p r (n + 1)
theorem firstP_any {α : Type} (p : α → Bool) : ∀ (l : List α) (n : Nat), decide (0 ≤ firstP p l n) = l.any p
 | [], _ => by simp [firstP]
 | x :: r, n => by
  unfold firstP
  cases hp : p x
  ·simp only [Bool.false_eq_true, if_false, List.any_cons, hp, Bool.false_or]
   exact firstP_any p r (n + 1)
  ·simp [hp]
theorem firstP_cons {α : Type} (p : α → Bool) (x : α) (r : List α) (n : Nat) : firstP p (x :: r) n = if p x then (n : Int) else firstP p r (n + 1) := rfl
end Go.Proofs.YtchilcchogcibaaGreatDoor
namespace Go.Proofs.YtchilcchogcibaaGreatDoor
open Go.RowKit
attribute [local go_sem] ByteArray.extract_mk ba_get ba_append
attribute [local go_sem ↓] Go.wp_at_zero Go.wp_at_succ run_eql_V run_neq_V
theorem exq_top {Q : Nat → Prop} {w : World} : ∀ l : List ExC, (∀ r ∈ l, ExR Q r.e r.A r.c w) → ∃ n, ∀ r ∈ l, ExQ 1000 n w Q r.A r.e.l
 | [], _ => ⟨0, fun r hr => by simp at hr⟩
 | x :: r, h => by
  obtain ⟨n, hn⟩ := exq_top r fun y hy => h y (by simp [hy])
  obtain ⟨_, _, _, m, hm⟩ := h x (by simp)
  refine ⟨max n m, fun y hy => ?_⟩
  rcases List.mem_cons.1 hy with rfl | hy
  ·exact hm.ups _ (Nat.le_max_right _ _)
  ·exact (hn y hy).ups _ (Nat.le_max_left _ _)
theorem ExQ.own {Q : Nat → Prop} {w : World} {base : Nat} {e : TypeId} {sv : Value} {n : Nat} {l : List ExC} (h : w.ownsRow base e 6 sv n (l.flatMap ExC.cells)) (hg : ∀ r ∈ l, ExR Q r.e r.A r.c w) (hQ : ∀ b, base ≤ b → b < w.heap.size → Q b) :
  ∃ A c m, sv = .slice A (l.map ExC.e).length c ∧ (l.map ExC.e).length ≤ c ∧ c ≤ maxLen ∧ ExQ 1000 m w Q A (l.map ExC.e) := by
 obtain ⟨m, hm⟩ := exq_top l hg
 have hn : l.length = n := by have := h.1; rw [exc_len] at this; omega
 rw [List.length_map]
 rcases h.2 with ⟨rfl, h0⟩ | ⟨g, cap, cur, rfl, hb, hgg, hnc, hcm, hcs, htk⟩
 ·have hl : l = [] := List.eq_nil_of_length_eq_zero (by omega)
  subst hl
  exact ⟨none, 0, 0, rfl, Nat.le_refl _, Nat.zero_le _, ExQ.nil _⟩
 ·refine ⟨some ⟨g, 0, none⟩, cap, m + 1, by rw [hn], by omega, hcm, fun _ => ⟨g, 0, rfl, hQ g hb (Array.getElem?_eq_some_iff.1 hgg).1, ?_⟩⟩
  intro i x hx
  rw [List.getElem?_map, Option.map_eq_some_iff] at hx
  obtain ⟨r, hr, rfl⟩ := hx
  obtain ⟨h1, h2, h3, _⟩ := hg r (List.mem_of_getElem? hr)
  have hc := h.cells (g := g) rfl
  have key : ∀ j u, j < 6 → r.cells[j]? = some u → w.cell? ⟨g, 0 + i * 6 + j, none⟩ = some u := by
   intro j u hj hu
   have := hc (i * 6 + j) u (by rw [exc_at l i j r hr hj]; exact hu)
   rw [add_mid] at this
   rw [Nat.add_assoc]
   exact this
  exact ⟨r.A, r.c, h1, h2, h3, ⟨key 0 _ (by omega) rfl, key 1 _ (by omega) rfl, key 2 _ (by omega) rfl, key 3 _ (by omega) rfl, key 4 _ (by omega) rfl, key 5 _ (by omega) rfl⟩, hm r (List.mem_of_getElem? hr)⟩
end Go.Proofs.YtchilcchogcibaaGreatDoor
namespace Go.Proofs.YtchilcchogcibaaGreatDoor
open Go.RowKit Go.ChangeMaps
theorem VF.keep {w w' : World} {lo hi lo' hi' : Nat} {A : Option Addr} {l : List V} (h : VF w lo hi A l) (hk : ∀ b, lo ≤ b → b < hi → (lo' ≤ b ∧ b < hi') ∧ ∀ o, w'.cell? ⟨b, o, none⟩ = w.cell? ⟨b, o, none⟩) : VF w' lo' hi' A l := fun hl => by
 obtain ⟨b, off, rfl, h1, h2, h3⟩ := h hl
 exact ⟨b, off, rfl, (hk b h1 h2).1.1, (hk b h1 h2).1.2, h3.keep (hk b h1 h2).2⟩
theorem ExR.at_ {Q : Nat → Prop} {e : Ex} {A : Option Addr} {c : Nat} {w : World} (h : ExR Q e A c w) (hQ : ∀ b, Q b → b < w.heap.size) {Y : World} (hb : Below w.heap.size w Y) : ∃ n, ExS 1000 n Y Y.heap.size A e.l := by
 obtain ⟨_, _, _, n, h4⟩ := h
 exact ⟨n, ((h4.toS hQ n).below n hb).more hb.size n⟩
end Go.Proofs.YtchilcchogcibaaGreatDoor
namespace Go.Proofs.YtchilcchogcibaaGreatDoor
open Go.RowKit
attribute [local go_sem] ByteArray.extract_mk ba_get
attribute [local go_sem ↓] Go.wp_at_zero Go.wp_at_succ
/-- A slice of the call's own with these cells. -/
def RetOwn (E : TypeId) (sz n : Nat) (cs : List Value) (w : World) (en : Ending) (w' : World) : Prop := ∃ sv, en = .returned sv ∧ w'.ownsRow w.heap.size E sz sv n cs ∧ Below w.heap.size w w'
theorem World.addr_add_block (a : Addr) (j : Nat) : (a.add j).block = a.block := by unfold Addr.add; split <;> rfl
end Go.Proofs.YtchilcchogcibaaGreatDoor
namespace Go.Proofs.YtchilcchogcibaaGreatDoor
open Go.RowKit
/-- A token as it is written. -/
def wrT (t : Tok) : List UInt8 := if t.k = 3 then textF 2 0 t.s else t.s
theorem indexByte_mem : ∀ (l : List UInt8) (c : UInt8), 0 ≤ Lib.indexByte l c → c ∈ l
 | [], c, h => by simp [Lib.indexByte] at h
 | b :: r, c, h => by
  by_cases e : b = c
  ·simp [e]
  ·have ih := indexByte_mem r c
   unfold Lib.indexByte at h
   rw [if_neg (by simpa using e)] at h
   split at h
   ·omega
   ·rename_i hn
    by_cases h0 : 0 ≤ Lib.indexByte r c
    ·exact List.mem_cons_of_mem _ (ih h0)
    ·have : Lib.indexByte r c = -1 := by omega
     exact absurd (by simp [this]) hn
theorem sign_facts (c : UInt8) (h : signB c = true) : letB c = false ∧ digB c = false ∧ ¬ c.toNat = 39 ∧ blankB c = false := by
 have hm : c ∈ signL := by
  unfold signB at h
  simp only [decide_eq_true_eq] at h
  exact indexByte_mem _ _ h
 simp only [signL, List.mem_cons, List.not_mem_nil, or_false] at hm
 rcases hm with rfl | rfl | rfl | rfl | rfl | rfl | rfl | rfl <;> decide
theorem toks_of_first (s rest : List UInt8) (t : Tok) (c : UInt8) (r : List UInt8) (hs : s = c :: r) (hb : blankB c = false) (hm : mayT t = true) (hf : firstT (s ++ rest) = (t, s.length)) : toks (s ++ rest) = (toks rest).map (t :: ·) := by
 subst hs
 have hd : (c :: r ++ rest).drop (c :: r).length = rest := by simp
 rw [List.cons_append] at hf hd ⊢
 rw [toks_tok c _ hb (by rw [hf]; exact hm), hf]
 simp only
 rw [hd]
theorem let_not_blank {c : UInt8} (h : letB c = true) : blankB c = false := by
 cases hb : blankB c
 ·rfl
 ·rw [(blank_not_part hb).2.1] at h; cases h
theorem dig_not_blank {c : UInt8} (h : digB c = true) : blankB c = false := by
 cases hb : blankB c
 ·rfl
 ·rw [(blank_not_part hb).2.2] at h; cases h
theorem dig_not_let {c : UInt8} (h : digB c = true) : letB c = false := by
 unfold digB at h
 unfold letB
 simp only [Bool.and_eq_true, decide_eq_true_eq] at h
 simp; omega
theorem runB_parts {m : Nat} {f g : UInt8 → Bool} {s : List UInt8} (h : runB m f g s = true) : (∃ c r, s = c :: r ∧ f c = true) ∧ lenRun f g s = s.length := by
 unfold runB at h
 simp only [Bool.and_eq_true, decide_eq_true_eq, beq_iff_eq] at h
 obtain ⟨⟨h1, _⟩, h3⟩ := h
 cases s with
 | nil => simp at h1
 | cons c r =>
  refine ⟨⟨c, r, rfl, ?_⟩, h3⟩
  cases hf : f c
  ·have h4 : lenRun f g (c :: r) = 0 := by show (if f c then 1 + (r.takeWhile g).length else 0) = 0; rw [hf]; rfl
   rw [h4] at h3
   simp at h3
  ·rfl
theorem toks_wr (t : Tok) (hm : mayT t = true) (rest : List UInt8) (hg : Gap rest) : toks (wrT t ++ rest) = (toks rest).map (t :: ·) := by
 obtain ⟨k, s⟩ := t
 have hm0 := hm
 unfold mayT at hm
 simp only at hm
 obtain ⟨g1, g2, g3⟩ := hg.run
 by_cases h3 : k = 3
 ·subst h3
  rw [if_pos rfl] at hm
  have hw : wrT ⟨3, s⟩ = writ s := by unfold wrT; rw [if_pos rfl]; unfold textF; rw [hm]; rfl
  rw [hw]
  exact toks_writ s rest hg hm
 ·rw [if_neg h3] at hm
  have hw : wrT ⟨k, s⟩ = s := by unfold wrT; rw [if_neg h3]
  rw [hw]
  by_cases h4 : k = 4
  ·subst h4
   rw [if_pos rfl] at hm
   match s, hm with
   | [c], hm =>
    obtain ⟨f1, f2, f3, f4⟩ := sign_facts c hm
    refine toks_of_first [c] rest ⟨4, [c]⟩ c [] rfl f4 hm0 ?_
    show firstT (c :: rest) = _
    unfold firstT
    have l1 : lenRun letB partB (c :: rest) = 0 := by unfold lenRun; simp [f1]
    have l2 : lenRun digB digB (c :: rest) = 0 := by unfold lenRun; simp [f2]
    rw [l1, l2]
    simp only [Nat.lt_irrefl, if_false]
    rw [if_neg f3]
    rfl
  ·rw [if_neg h4] at hm
   by_cases h1 : k = 1
   ·subst h1
    rw [if_pos rfl] at hm
    obtain ⟨⟨c, r, hs, hc⟩, hl⟩ := runB_parts hm
    have hp : 0 < s.length := by rw [hs]; simp
    refine toks_of_first s rest ⟨1, s⟩ c r hs (let_not_blank hc) hm0 ?_
    unfold firstT
    rw [lenRun_gap letB partB s rest hp g1, hl, if_pos hp]
    simp
   ·rw [if_neg h1] at hm
    by_cases h2 : k = 2
    ·subst h2
     rw [if_pos rfl] at hm
     obtain ⟨⟨c, r, hs, hc⟩, hl⟩ := runB_parts hm
     have hp : 0 < s.length := by rw [hs]; simp
     refine toks_of_first s rest ⟨2, s⟩ c r hs (dig_not_blank hc) hm0 ?_
     have l1 : lenRun letB partB (s ++ rest) = 0 := by rw [hs, List.cons_append]; unfold lenRun; simp [dig_not_let hc]
     unfold firstT
     rw [l1, lenRun_gap digB digB s rest hp g2, hl, if_neg (Nat.lt_irrefl 0), if_pos hp]
     simp
    ·rw [if_neg h2] at hm
     cases hm
theorem dig_nat (d : Nat) (h : d < 10) : (UInt8.ofNat (48 + d)).toNat = 48 + d := by
 rw [UInt8.toNat_ofNat']; omega
end Go.Proofs.YtchilcchogcibaaGreatDoor
namespace Go.Proofs.YtchilcchogcibaaGreatDoor
open Go.RowKit
attribute [local go_sem] ByteArray.extract_mk ba_get ba_append
attribute [local go_sem ↓] Go.wp_at_zero Go.wp_at_succ
/-- strconv's two errors lie there. -/
def Errs (w : World) : Prop := (∃ tp p, w.var? Tryz.prog "strconv.ErrSyntax" = some #[.iface tp p]) ∧ (∃ tp p, w.var? Tryz.prog "strconv.ErrRange" = some #[.iface tp p])
theorem Errs.below {B : Nat} {w w' : World} (h : Errs w) (hb : Below B w w') (hB : B = w.heap.size) : Errs w' := by
 obtain ⟨⟨t1, p1, h1⟩, t2, p2, h2⟩ := h
 exact ⟨⟨t1, p1, var_below h1 hb hB⟩, t2, p2, var_below h2 hb hB⟩
end Go.Proofs.YtchilcchogcibaaGreatDoor
namespace Go.Proofs.YtchilcchogcibaaGreatDoor
open Go.RowKit
attribute [local go_sem] ByteArray.extract_mk ba_get ba_append
attribute [local go_sem ↓] Go.wp_at_zero Go.wp_at_succ run_eql_V run_neq_V
def isB (k : Int) (s word : List UInt8) : Bool := (decide (k = 1) || decide (k = 4)) && s == word
def hit (l : List Tok) (a : Nat) (word : List UInt8) : Bool := match l[a]? with | none => false | some t => isB t.k t.s word
/-- strconv's two errors lie below a block as they were laid. -/
def EnvP (p : Nat) (w : World) : Prop := ∃ W0 : World, Errs W0 ∧ W0.heap.size ≤ p ∧ Below W0.heap.size W0 w
theorem EnvP.below {p : Nat} {w w' : World} (h : EnvP p w) (hb : Below p w w') : EnvP p w' := by
 obtain ⟨W0, h1, h2, h3⟩ := h
 exact ⟨W0, h1, h2, h3.trans (hb.mono h2)⟩
theorem EnvP.more {p q : Nat} {w : World} (h : EnvP p w) (hq : p ≤ q) : EnvP q w := by
 obtain ⟨W0, h1, h2, h3⟩ := h
 exact ⟨W0, h1, Nat.le_trans h2 hq, h3⟩
theorem EnvP.of {w : World} (h : Errs w) : EnvP w.heap.size w := ⟨w, h, Nat.le_refl _, Below.refl _ _⟩
/-- Tokens, and strconv's errors, below a block. -/
def TkE (w : World) (p : Nat) (A : Option Addr) (l : List Tok) : Prop := TkS w p A l ∧ EnvP p w
theorem TkE.below {w w' : World} {p : Nat} {A : Option Addr} {l : List Tok} (h : TkE w p A l) (hb : Below p w w') : TkE w' p A l := ⟨h.1.below hb, h.2.below hb⟩
theorem TkE.at_ {w : World} {p : Nat} {A : Option Addr} {l : List Tok} (h : TkE w p A l) {j : Nat} (hj : j < l.length) :
  ∃ b off v, A = some ⟨b, off, none⟩ ∧ b < p ∧ l[j]? = some v ∧ w.cell? ⟨b, off + j * 2, none⟩ = some (.int .i64 v.k) ∧ w.cell? ⟨b, off + j * 2 + 1, none⟩ = some (.string ⟨v.s.toArray⟩) := h.1.at_ hj
/-- A parser at a place of its tokens. -/
def PSt (p : Nat) (A : Option Addr) (c : Nat) (l : List Tok) (a deep : Nat) (w : World) : Prop :=
 Blk w p 235 #[.slice A l.length c, .int .i64 (a : Nat), .int .i64 (deep : Nat)] ∧ TkE w p A l
theorem PSt.but {p : Nat} {A : Option Addr} {c : Nat} {l : List Tok} {a deep : Nat} {w w' : World} (h : PSt p A c l a deep w) (hb : Below w.heap.size w w') : PSt p A c l a deep w' :=
 ⟨h.1.below hb h.1.lt, h.2.below (hb.mono (Nat.le_of_lt h.1.lt))⟩
end Go.Proofs.YtchilcchogcibaaGreatDoor
namespace Go.Proofs.YtchilcchogcibaaGreatDoor
open Go.RowKit
def bcs (l : List UInt8) : List Value := l.map fun b => Value.int .u8 (b.toNat : Int)
theorem bcs_length (a : List UInt8) : (bcs a).length = a.length := by simp [bcs]
theorem strOfNums_nat (l : List UInt8) : strOfNums (l.map fun b => (b.toNat : Int)) = ⟨l.toArray⟩ := by
 unfold strOfNums
 congr 2
 rw [List.map_map]
 conv => rhs; rw [← List.map_id l]
 apply List.map_congr_left
 intro b _
 simp
/-- The text of a row of octets that the call owns. -/
theorem own_text {P : Program} {w : World} {base : Nat} {src e dst : TypeId} {v : Value} {n : Nat} {l : List UInt8} (hs : P.underlying src = some (.slice e)) (he : P.underlying e = some (.int .u8)) (hd : P.underlying dst = some .string)
  (h : w.ownsRow base e 1 v n (bcs l)) : (convert src dst v).run P w = .ok (.string ⟨l.toArray⟩) w := by
 have hn : l.length = n := by have := h.1; rw [bcs_length] at this; omega
 rcases h.2 with ⟨rfl, h0⟩ | ⟨g, cap, cur, rfl, _, _, _, _, _, _⟩
 ·have : l = [] := List.eq_nil_of_length_eq_zero (by omega)
  subst this
  exact run_convert_bytes_nil w src e hs he 0 0 dst hd
 ·have hc := h.cells (g := g) rfl
  have := run_convert_bytes_arg (P := P) w src e hs he g 0 n cap (l.map fun b => (b.toNat : Int)) (by simpa using hn) (fun i hi => by
   have h1 := hc i (.int .u8 (l[i].toNat : Int)) (by simp [bcs, List.getElem?_eq_getElem (show i < l.length by omega)])
   rw [add_mid] at h1
   rw [h1]
   simp [List.getElem?_eq_getElem (show i < l.length by omega)]) dst hd
  rw [strOfNums_nat] at this
  exact this
/-- A new block of one octet is a row of the call's own. -/
theorem own_new (w : World) (base : Nat) (e : TypeId) (b : Int) (u : UInt8) (hu : (u.toNat : Int) = b) (hb : base ≤ w.heap.size) :
  (w.alloc (.cells #[.int .u8 b] e)).ownsRow base e 1 (.slice (some ⟨w.heap.size, 0, none⟩) 1 1) 1 (bcs [u]) := by
 subst hu
 refine ⟨by simp [bcs], .inr ⟨w.heap.size, 1, #[.int .u8 (u.toNat : Int)], rfl, hb, heap_alloc_new w _, Nat.le_refl _, by simp [maxLen], by simp, by simp [bcs]⟩⟩
section
variable {P : Program}
/-- 'copy(d, s)' of n elements of so many cells, into a block that is known whole. -/
theorem run_copy_rowN (w : World) (dT sT ty elem : TypeId) (size n g o dLen dCap : Nat) (a : Addr) (sLen sCap : Nat) (cur : Array Value) (t : TypeId) (cs : List Value)
  (hu : P.underlying dT = some (.slice elem)) (hs : (P.info? elem).map (·.size) = some size) (hn : Nat.min sLen dLen = n) (hl : cs.length = n * size)
  (hg : Blk w g t cur) (hsrc : ∀ j v, cs[j]? = some v → w.cell? (a.add j) = some v) (hfit : o + cs.length ≤ cur.size) (h1 : ∀ v ∈ cs, v.oneCell' = true) :
  (Builtin.copy_ #[dT, sT] ty #[.slice (some ⟨g, o, none⟩) dLen dCap, .slice (some a) sLen sCap]).run P w =
   .ok (goInt n) (w.setRow g (cur.toList.take o ++ cs ++ cur.toList.drop (o + cs.length)).toArray) := by
 have hld := run_loadCells_list (P := P) w a cs hsrc
 have hst := run_storeCells_at P g o t cs 0 cur w hg (by simpa using hfit) h1
 cases hq : P.info? elem with
 | none => simp [hq] at hs
 | some i =>
  have hi : i.size = size := by simpa [hq] using hs
  simp [Builtin.copy_, run_underlying hu, Builtin.lenOf, Builtin.firstCells, sizeOf, typeInfo, hq, hi, hn, ← hl, hld, hst]
theorem step_copyR {ops : Array Oper} {o : Oper} {a : Act} {w : World} {K : Act → World → Prop} {Q : Exit → Act → World → Prop} {E : Prop}
  (hg : o.guard = none) (d x : Operand) (dT sT : TypeId) (hop : o.op = Op.call { callee := Callee.builtin Builtin.copy, args := #[d, x], argTypes := #[dT, sT] })
  (v u : Value) (hd : a.eval d = v) (hx : a.eval x = u) {v' : Value} {w' : World} (hr : (Builtin.copy_ #[dT, sT] o.type #[v, u]).run P w = .ok v' w') (hK : K (a.put o.dst v') w') :
  if Region.wanted o (yielded ops a.tmps) = true then Oper.wp P o a w K Q else E := by
 have hw : Region.wanted o (yielded ops a.tmps) = true := by simp [Region.wanted, hg]
 rw [if_pos hw]
 unfold Oper.wp
 simp [execOp, hop, resolve, invoke, builtin, hd, hx, hr, Result.andThen]
 exact hK
/-- 'clear(s)' of n elements of so many cells, in a block that is known whole. -/
theorem run_clear_rowN (w : World) (t e ty : TypeId) (z : Value) (ht : P.underlying t = some (.slice e)) (hv : ∀ w, (zeroValue e).run P w = .ok z w) (g o n c : Nat) (hn : 0 < n) (cur : Array Value) (t' : TypeId) (hg : Blk w g t' cur)
  (hfit : o + (Builtin.zeroCells z.cells n).size ≤ cur.size) (h1 : ∀ v ∈ (Builtin.zeroCells z.cells n).toList, v.oneCell' = true) :
  (Builtin.clear_ #[t] ty #[.slice (some ⟨g, o, none⟩) n c]).run P w = .ok (.tuple #[]) (w.setRow g (cur.toList.take o ++ (Builtin.zeroCells z.cells n).toList ++ cur.toList.drop (o + (Builtin.zeroCells z.cells n).toList.length)).toArray) := by
 have hst := run_storeCells_at P g o t' (Builtin.zeroCells z.cells n).toList 0 cur w hg (by simpa using hfit) h1
 obtain ⟨m, rfl⟩ : ∃ m, n = m + 1 := ⟨n - 1, by omega⟩
 simp only [Nat.add_zero] at hst
 simp [Builtin.clear_, run_underlying ht, hv, hst]
end
theorem Blk.row {w : World} {g : Nat} {t : TypeId} {cur : Array Value} (h : Blk w g t cur) (cs : Array Value) : Blk (w.setRow g cs) g t cs := setRow_heap w g cur cs t (0, 0) h
theorem setRow_block (w : World) (g k : Nat) (cs : Array Value) (hk : k ≠ g) : (w.setRow g cs).heap[k]? = w.heap[k]? := by
 unfold World.setRow
 simp only
 rw [Array.getElem?_modify, if_neg (Ne.symm hk)]
theorem Blk.rowFar {w : World} {g k : Nat} {t : TypeId} {cur : Array Value} (h : Blk w k t cur) (hk : k ≠ g) (cs : Array Value) : Blk (w.setRow g cs) k t cur := (setRow_block w g k cs hk).trans h
theorem setRow_size (w : World) (g : Nat) (cs : Array Value) : (w.setRow g cs).heap.size = w.heap.size := by unfold World.setRow; simp
theorem bwRow {B : Nat} {a w : World} {g : Nat} (h : Below B a w) (hg : B ≤ g) (cs : Array Value) : Below B a (w.setRow g cs) :=
 ⟨h.os, h.tape, h.output, by rw [setRow_size]; exact h.size, fun k hk => (setRow_block w g k cs (by omega)).trans (h.block k hk)⟩
theorem Blk.own {w : World} {base g : Nat} {t : TypeId} {cur : Array Value} {size n cap : Nat} {xs : List Value} (h : Blk w g t cur) (hb : base ≤ g) (hn : n ≤ cap) (hc : cap ≤ maxLen) (hs : cur.size = cap * size) (hx : cur.toList.take (n * size) = xs) :
  w.ownsRow base t size (.slice (some ⟨g, 0, none⟩) n cap) n xs := by
 refine ⟨?_, .inr ⟨g, cap, cur, rfl, hb, h, hn, hc, hs, hx⟩⟩
 rw [← hx, List.length_take, Array.length_toList, hs]
 exact Nat.min_eq_left (Nat.mul_le_mul_right _ hn)
theorem zeroCells_len (z : Array Value) (n : Nat) : (Builtin.zeroCells z n).toList.length = n * z.size := by rw [Array.length_toList]; exact size_zeroCells z n
theorem mod_size {n : Nat} {z : Array Value} (h : 0 < z.size) : n % z.size < z.size := Nat.mod_lt _ h
theorem zeroCells_one (z : Array Value) (n : Nat) (hz : 0 < z.size) (h : ∀ v ∈ z.toList, v.oneCell' = true) : ∀ v ∈ (Builtin.zeroCells z n).toList, v.oneCell' = true := by
 intro v hv
 unfold Builtin.zeroCells at hv
 rw [Array.toList_map, List.mem_map] at hv
 obtain ⟨i, _, rfl⟩ := hv
 refine h _ ?_
 rw [getElem!_pos z _ (mod_size hz)]
 exact Array.getElem_mem_toList _
end Go.Proofs.YtchilcchogcibaaGreatDoor
namespace Go.Proofs.YtchilcchogcibaaGreatDoor
open Go.ChangeShapes Go.WideShapes Go.ChangeAt Go.RowKit Go.Deep Go.Joins
theorem own : ownKnob Tryz.prog.godebug = none := by kernel_rfl
theorem laidOut : laidOutB Tryz.prog = true := by kernel_rfl
/-- A number of 64 bits, and a text that a length counts. -/
def V.ok (v : V) : Prop := (-9223372036854775808 ≤ v.k ∧ v.k ≤ 9223372036854775807) ∧ (-9223372036854775808 ≤ v.i ∧ v.i ≤ 9223372036854775807) ∧ v.s.length ≤ 9223372036854775807
theorem cells1s : Tryz.prog.cellsOf 9 = 1 := by kernel_rfl
theorem str_len {s : ByteArray} (h : s.size ≤ maxLen) : s.data.toList.length ≤ maxLen := by
 have hsz : s.data.toList.length = s.size := by rw [Array.length_toList]; rfl
 omega
end Go.Proofs.YtchilcchogcibaaGreatDoor
namespace Go.Proofs.YtchilcchogcibaaGreatDoor
open Go.RowKit Go.ChangeShapes Go.WideShapes Go.ChangeAt
set_option maxRecDepth 100000 in
theorem open_str {H : Type} {enc : TypeId × Value → H} {W : World} {base : Nat} {v : Value} {d : DataW H} {p : List MemPlace}
  (hv : Value.okWide Tryz.prog W .any base 9 v) (h : DataW.Trod enc Tryz.prog W 0 (fun _ => true) true 9 v d p) :
  ∃ l : List UInt8, v = .string ⟨l.toArray⟩ ∧ l.length ≤ maxLen := by
 obtain ⟨s, rfl⟩ := okWide_string Tryz.underlying9 hv
 obtain ⟨fuel, hf⟩ := h
 obtain ⟨s', e2, _, w2⟩ := DataW.trod_string Tryz.underlying9 hf
 simp [Value.cells] at e2
 subst e2
 exact ⟨s.data.toList, rfl, by rw [Array.length_toList]; exact w2⟩
end Go.Proofs.YtchilcchogcibaaGreatDoor
