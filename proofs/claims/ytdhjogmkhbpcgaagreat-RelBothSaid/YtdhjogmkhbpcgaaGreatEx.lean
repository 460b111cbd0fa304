/- Plain words for expressions (trees) and columns: how they lie in memory. Nothing of the program stands here. -/
import Derived.Test.YtdhjogmkhbpcgaaGreatBase
namespace Go.Proofs.YtdhjogmkhbpcgaaGreat
open Go.RowKit

inductive Ex where
  | mk (op : List UInt8) (v : V) (s : List UInt8) (l : List Ex)
def Ex.op : Ex → List UInt8 | .mk o _ _ _ => o
def Ex.v : Ex → V | .mk _ v _ _ => v
def Ex.s : Ex → List UInt8 | .mk _ _ s _ => s
def Ex.l : Ex → List Ex | .mk _ _ _ l => l
theorem Ex.eta (e : Ex) : e = .mk e.op e.v e.s e.l := by cases e; rfl

/-- The six cells of an expression whose parts lie at A. -/
def Ex.cells (e : Ex) (A : Option Addr) (c : Nat) : List Value :=
  [.string ⟨e.op.toArray⟩, .int .i64 e.v.k, .int .i64 e.v.i, .string ⟨e.v.s.toArray⟩, .string ⟨e.s.toArray⟩, .slice A e.l.length c]
/-- Six cells from a place on. -/
def Six (w : World) (b o : Nat) (e : Ex) (A : Option Addr) (c : Nat) : Prop :=
  w.cell? ⟨b, o, none⟩ = some (.string ⟨e.op.toArray⟩) ∧ w.cell? ⟨b, o + 1, none⟩ = some (.int .i64 e.v.k) ∧ w.cell? ⟨b, o + 2, none⟩ = some (.int .i64 e.v.i) ∧
    w.cell? ⟨b, o + 3, none⟩ = some (.string ⟨e.v.s.toArray⟩) ∧ w.cell? ⟨b, o + 4, none⟩ = some (.string ⟨e.s.toArray⟩) ∧ w.cell? ⟨b, o + 5, none⟩ = some (.slice A e.l.length c)
/-- A number that fits, and texts no longer than K. -/
def Ex.fit (K : Nat) (e : Ex) : Prop := (-9223372036854775808 ≤ e.v.i ∧ e.v.i ≤ 9223372036854775807) ∧ e.op.length ≤ K ∧ e.s.length ≤ K ∧ e.v.s.length ≤ K
/-- The slice '.slice A l.length c' reads as the expressions l, of a height of n at the most, and lies, with all that it reaches, below block B. -/
def ExS (K : Nat) : Nat → World → Nat → Option Addr → List Ex → Prop
  | 0, _, _, _, l => l = []
  | n + 1, w, B, A, l => 0 < l.length → ∃ b off, A = some ⟨b, off, none⟩ ∧ b < B ∧ ∀ i e, l[i]? = some e →
      ∃ A' c', e.fit K ∧ e.l.length ≤ c' ∧ c' ≤ maxLen ∧ Six w b (off + i * 6) e A' c' ∧ ExS K n w B A' e.l

theorem Six.keep {w w' : World} {b o : Nat} {e : Ex} {A : Option Addr} {c : Nat} (h : Six w b o e A c) (hk : ∀ o, w'.cell? ⟨b, o, none⟩ = w.cell? ⟨b, o, none⟩) : Six w' b o e A c := by
  obtain ⟨h0, h1, h2, h3, h4, h5⟩ := h
  exact ⟨(hk _).trans h0, (hk _).trans h1, (hk _).trans h2, (hk _).trans h3, (hk _).trans h4, (hk _).trans h5⟩
theorem ExS.nil {K : Nat} {w : World} {B : Nat} {A : Option Addr} : ∀ n, ExS K n w B A []
  | 0 => rfl
  | _ + 1 => fun h => absurd h (by simp)
theorem ExS.below {K : Nat} {w w' : World} {B : Nat} : ∀ (n : Nat) {A : Option Addr} {l : List Ex}, ExS K n w B A l → Below B w w' → ExS K n w' B A l
  | 0, _, _, h, _ => h
  | n + 1, _, _, h, hb => fun hl => by
    obtain ⟨b, off, rfl, hbB, hr⟩ := h hl
    refine ⟨b, off, rfl, hbB, fun i e he => ?_⟩
    obtain ⟨A', c', hf, h1, h2, h3, h4⟩ := hr i e he
    exact ⟨A', c', hf, h1, h2, h3.keep fun o => hb.cell (p := ⟨b, o, none⟩) hbB, h4.below n hb⟩
theorem ExS.more {K : Nat} {w : World} {B B' : Nat} (hB : B ≤ B') : ∀ (n : Nat) {A : Option Addr} {l : List Ex}, ExS K n w B A l → ExS K n w B' A l
  | 0, _, _, h => h
  | n + 1, _, _, h => fun hl => by
    obtain ⟨b, off, rfl, hbB, hr⟩ := h hl
    refine ⟨b, off, rfl, by omega, fun i e he => ?_⟩
    obtain ⟨A', c', hf, h1, h2, h3, h4⟩ := hr i e he
    exact ⟨A', c', hf, h1, h2, h3, h4.more hB n⟩
theorem ExS.up {K : Nat} {w : World} {B : Nat} : ∀ (n : Nat) {A : Option Addr} {l : List Ex}, ExS K n w B A l → ExS K (n + 1) w B A l
  | 0, _, _, h => by cases h; exact ExS.nil 1
  | n + 1, _, _, h => fun hl => by
    obtain ⟨b, off, rfl, hbB, hr⟩ := h hl
    refine ⟨b, off, rfl, hbB, fun i e he => ?_⟩
    obtain ⟨A', c', hf, h1, h2, h3, h4⟩ := hr i e he
    exact ⟨A', c', hf, h1, h2, h3, h4.up n⟩
theorem ExS.ups {K : Nat} {w : World} {B : Nat} {A : Option Addr} {l : List Ex} {n : Nat} (h : ExS K n w B A l) : ∀ m, n ≤ m → ExS K m w B A l
  | 0, hm => by
    have : n = 0 := by omega
    subst this; exact h
  | m + 1, hm => by
    by_cases e : n = m + 1
    · subst e; exact h
    · exact (h.ups m (by omega)).up m
theorem ExS.at_ {K : Nat} {w : World} {B n : Nat} {A : Option Addr} {l : List Ex} (h : ExS K (n + 1) w B A l) {j : Nat} (hj : j < l.length) :
    ∃ b off e A' c', A = some ⟨b, off, none⟩ ∧ b < B ∧ l[j]? = some e ∧ e.fit K ∧ e.l.length ≤ c' ∧ c' ≤ maxLen ∧ Six w b (off + j * 6) e A' c' ∧ ExS K n w B A' e.l := by
  obtain ⟨b, off, rfl, hb, hr⟩ := h (by omega)
  obtain ⟨A', c', hf, h1, h2, h3, h4⟩ := hr j l[j] (List.getElem?_eq_getElem hj)
  exact ⟨b, off, l[j], A', c', rfl, hb, List.getElem?_eq_getElem hj, hf, h1, h2, h3, h4⟩
/-- The expressions of a list are of a height of n at the most. -/
def Hgt : Nat → List Ex → Prop
  | 0, l => l = []
  | n + 1, l => ∀ e ∈ l, Hgt n e.l
theorem Hgt.nil : ∀ n, Hgt n []
  | 0 => rfl
  | _ + 1 => fun _ h => by simp at h
theorem ExS.hgt {K : Nat} {w : World} {B : Nat} : ∀ (n : Nat) {A : Option Addr} {l : List Ex}, ExS K n w B A l → Hgt n l
  | 0, _, _, h => h
  | n + 1, _, l, h => fun e he => by
    obtain ⟨i, hi, rfl⟩ := List.getElem_of_mem he
    obtain ⟨b, off, rfl, _, hr⟩ := h (by omega)
    obtain ⟨A', c', _, _, _, _, h4⟩ := hr i l[i] (List.getElem?_eq_getElem hi)
    exact h4.hgt n
theorem Hgt.up : ∀ (n : Nat) {l : List Ex}, Hgt n l → Hgt (n + 1) l
  | 0, _, h => by cases h; exact Hgt.nil 1
  | n + 1, _, h => fun e he => (h e he).up n

/-- A slice that a call made: ready cells of one or two expressions in a block. -/
theorem exS_one {K : Nat} {w : World} {g n : Nat} {t : TypeId} {e : Ex} {A : Option Addr} {c : Nat} (h : Blk w g t (e.cells A c).toArray) (hf : e.fit K) (h1 : e.l.length ≤ c) (h2 : c ≤ maxLen) (h3 : ExS K n w w.heap.size A e.l) :
    ExS K (n + 1) w w.heap.size (some ⟨g, 0, none⟩) [e] := fun _ => by
  refine ⟨g, 0, rfl, h.lt, fun i x hx => ?_⟩
  match i, hx with
  | 0, hx =>
    simp at hx; subst hx
    exact ⟨A, c, hf, h1, h2, ⟨h.cell 0, h.cell 1, h.cell 2, h.cell 3, h.cell 4, h.cell 5⟩, h3⟩
theorem exS_two {K : Nat} {w : World} {g n : Nat} {t : TypeId} {e e' : Ex} {A A' : Option Addr} {c c' : Nat} (h : Blk w g t (e.cells A c ++ e'.cells A' c').toArray) (hf : e.fit K) (h1 : e.l.length ≤ c) (h2 : c ≤ maxLen) (h3 : ExS K n w w.heap.size A e.l)
    (hf' : e'.fit K) (h1' : e'.l.length ≤ c') (h2' : c' ≤ maxLen) (h3' : ExS K n w w.heap.size A' e'.l) : ExS K (n + 1) w w.heap.size (some ⟨g, 0, none⟩) [e, e'] := fun _ => by
  refine ⟨g, 0, rfl, h.lt, fun i x hx => ?_⟩
  match i, hx with
  | 0, hx =>
    simp at hx; subst hx
    exact ⟨A, c, hf, h1, h2, ⟨h.cell 0, h.cell 1, h.cell 2, h.cell 3, h.cell 4, h.cell 5⟩, h3⟩
  | 1, hx =>
    simp at hx; subst hx
    exact ⟨A', c', hf', h1', h2', ⟨h.cell 6, h.cell 7, h.cell 8, h.cell 9, h.cell 10, h.cell 11⟩, h3'⟩

/-- All blocks but one are as they were; more memory there may be. -/
structure But (p : Nat) (w w' : World) : Prop where
  os : w'.os = w.os
  tape : w'.tape = w.tape
  output : w'.output = w.output
  size : w.heap.size ≤ w'.heap.size
  block : ∀ k, k < w.heap.size → k ≠ p → w'.heap[k]? = w.heap[k]?
theorem But.refl (p : Nat) (w : World) : But p w w := ⟨rfl, rfl, rfl, Nat.le_refl _, fun _ _ _ => rfl⟩
theorem But.trans {p : Nat} {a b c : World} (h : But p a b) (k : But p b c) : But p a c :=
  ⟨k.os.trans h.os, k.tape.trans h.tape, k.output.trans h.output, Nat.le_trans h.size k.size, fun i hi hp => (k.block i (Nat.lt_of_lt_of_le hi h.size) hp).trans (h.block i hi hp)⟩
theorem But.of_below {p : Nat} {w w' : World} (h : Below w.heap.size w w') : But p w w' := ⟨h.os, h.tape, h.output, h.size, fun k hk _ => h.block k hk⟩
theorem But.below {p : Nat} {w w' : World} (h : But p w w') (hp : p ≤ w.heap.size) : Below p w w' := ⟨h.os, h.tape, h.output, h.size, fun k hk => h.block k (by omega) (by omega)⟩
theorem But.blk {p : Nat} {w w' : World} (h : But p w w') {g : Nat} {t : TypeId} {cs : Array Value} (hb : Blk w g t cs) (hg : g ≠ p) : Blk w' g t cs := (h.block g hb.lt hg).trans hb
/-- What a call did to memory that it made itself, all told. -/
theorem But.inside {p : Nat} {w0 w w' : World} (h0 : Below w0.heap.size w0 w) (hp : w0.heap.size ≤ p) (h : But p w w') : Below w0.heap.size w0 w' :=
  ⟨h.os.trans h0.os, h.tape.trans h0.tape, h.output.trans h0.output, Nat.le_trans h0.size h.size, fun k hk => (h.block k (Nat.lt_of_lt_of_le hk h0.size) (by omega)).trans (h0.block k hk)⟩

structure Col where
  n : List UInt8
  t : Int
  b : Bool
def Col.cells (c : Col) : List Value := [.string ⟨c.n.toArray⟩, .int .i64 c.t, .bool c.b]
def ColRow (w : World) (b off : Nat) (l : List Col) : Prop := ∀ i v, l[i]? = some v → w.cell? ⟨b, off + i * 3, none⟩ = some (.string ⟨v.n.toArray⟩) ∧ w.cell? ⟨b, off + i * 3 + 1, none⟩ = some (.int .i64 v.t) ∧ w.cell? ⟨b, off + i * 3 + 2, none⟩ = some (.bool v.b)
def ColS (w : World) (B : Nat) (A : Option Addr) (l : List Col) : Prop := 0 < l.length → ∃ b off, A = some ⟨b, off, none⟩ ∧ b < B ∧ ColRow w b off l
theorem ColS.at_ {w : World} {B : Nat} {A : Option Addr} {l : List Col} (h : ColS w B A l) {j : Nat} (hj : j < l.length) :
    ∃ b off v, A = some ⟨b, off, none⟩ ∧ b < B ∧ l[j]? = some v ∧ w.cell? ⟨b, off + j * 3, none⟩ = some (.string ⟨v.n.toArray⟩) ∧ w.cell? ⟨b, off + j * 3 + 1, none⟩ = some (.int .i64 v.t) ∧ w.cell? ⟨b, off + j * 3 + 2, none⟩ = some (.bool v.b) := by
  obtain ⟨b, off, rfl, hb, hr⟩ := h (by omega)
  have hv : l[j]? = some l[j] := List.getElem?_eq_getElem hj
  obtain ⟨h0, h1, h2⟩ := hr j _ hv
  exact ⟨b, off, l[j], rfl, hb, hv, h0, h1, h2⟩
theorem ColS.below {w w' : World} {B : Nat} {A : Option Addr} {l : List Col} (h : ColS w B A l) (hb : Below B w w') : ColS w' B A l := fun hl => by
  obtain ⟨b, off, rfl, hbB, hr⟩ := h hl
  refine ⟨b, off, rfl, hbB, fun i v hv => ?_⟩
  have hk : ∀ o, w'.cell? ⟨b, o, none⟩ = w.cell? ⟨b, o, none⟩ := fun o => hb.cell (p := ⟨b, o, none⟩) hbB
  obtain ⟨h0, h1, h2⟩ := hr i v hv
  exact ⟨(hk _).trans h0, (hk _).trans h1, (hk _).trans h2⟩
theorem ColS.more {w : World} {B B' : Nat} {A : Option Addr} {l : List Col} (h : ColS w B A l) (hB : B ≤ B') : ColS w B' A l := fun hl => by
  obtain ⟨b, off, rfl, hbB, hr⟩ := h hl
  exact ⟨b, off, rfl, by omega, hr⟩
theorem ColS.nil {w : World} {B : Nat} {A : Option Addr} : ColS w B A [] := fun h => absurd h (by simp)

end Go.Proofs.YtdhjogmkhbpcgaaGreat
