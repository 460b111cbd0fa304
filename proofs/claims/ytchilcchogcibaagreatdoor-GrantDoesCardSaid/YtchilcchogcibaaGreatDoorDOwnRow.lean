/- Plain words for expressions (trees) and columns; Plain words for tokens; Rows that a call owns, known whole. -/
import Derived.Laws.CopyRow
import Derived.Lib.Overlaps
import Derived.Lib.AppendZeros
import Derived.Lib.AppendZerosOnto
import Derived.Lib.SliceRun
import Derived.Test.YtchilcchogcibaaGreatDoorDBytes
namespace Go.Proofs.YtchilcchogcibaaGreatDoor
open Go.RowKit
inductive Ex where
 | mk (op : List UInt8) (v : V) (s : List UInt8) (l : List Ex)
def Ex.op : Ex → List UInt8 | .mk o _ _ _ => o
def Ex.v : Ex → V | .mk _ v _ _ => v
def Ex.s : Ex → List UInt8 | .mk _ _ s _ => s
def Ex.l : Ex → List Ex | .mk _ _ _ l => l
theorem Ex.eta (e : Ex) : e = .mk e.op e.v e.s e.l := by cases e; rfl
def Ex.cells (e : Ex) (A : Option Addr) (c : Nat) : List Value :=
 [.string ⟨e.op.toArray⟩, .int .i64 e.v.k, .int .i64 e.v.i, .string ⟨e.v.s.toArray⟩, .string ⟨e.s.toArray⟩, .slice A e.l.length c]
def Six (w : World) (b o : Nat) (e : Ex) (A : Option Addr) (c : Nat) : Prop :=
 w.cell? ⟨b, o, none⟩ = some (.string ⟨e.op.toArray⟩) ∧ w.cell? ⟨b, o + 1, none⟩ = some (.int .i64 e.v.k) ∧ w.cell? ⟨b, o + 2, none⟩ = some (.int .i64 e.v.i) ∧
  w.cell? ⟨b, o + 3, none⟩ = some (.string ⟨e.v.s.toArray⟩) ∧ w.cell? ⟨b, o + 4, none⟩ = some (.string ⟨e.s.toArray⟩) ∧ w.cell? ⟨b, o + 5, none⟩ = some (.slice A e.l.length c)
def Ex.fit (K : Nat) (e : Ex) : Prop := (-9223372036854775808 ≤ e.v.i ∧ e.v.i ≤ 9223372036854775807) ∧ e.op.length ≤ K ∧ e.s.length ≤ K ∧ e.v.s.length ≤ K
def ExS (K : Nat) : Nat → World → Nat → Option Addr → List Ex → Prop
 | 0, _, _, _, l => l = []
 | n + 1, w, B, A, l => 0 < l.length → ∃ b off, A = some ⟨b, off, none⟩ ∧ b < B ∧ ∀ i e, l[i]? = some e →
   ∃ A' c', e.fit K ∧ e.l.length ≤ c' ∧ c' ≤ maxLen ∧ Six w b (off + i * 6) e A' c' ∧ ExS K n w B A' e.l
theorem Six.keep {w w' : World} {b o : Nat} {e : Ex} {A : Option Addr} {c : Nat} (h : Six w b o e A c) (hk : ∀ o, w'.cell? ⟨b, o, none⟩ = w.cell? ⟨b, o, none⟩) : Six w' b o e A c := by
 obtain ⟨h0, h1, h2, h3, h4, h5⟩ := h
 exact ⟨(hk _).trans h0, (hk _).trans h1, (hk _).trans h2, (hk _).trans h3, (hk _).trans h4, (hk _).trans h5⟩
theorem ExS.nil {K : Nat} {w : World} {B : Nat} {A : Option Addr} : ∀ n, ExS K n w B A []
 | 0 => rfl
 | _ + 1 => fun h => absurd h (by simp)
theorem ExS.below {K : Nat} {w w' : World} {B : Nat} : ∀ (n : Nat) {A : Option Addr} {l : List Ex}, ExS K n w B A l → Below B w w' → ExS K n w' B A l
 | 0, _, _, h, _ => h
 | n + 1, _, _, h, hb => fun hl => by
  obtain ⟨b, off, rfl, hbB, hr⟩ := h hl
  refine ⟨b, off, rfl, hbB, fun i e he => ?_⟩
  obtain ⟨A', c', hf, h1, h2, h3, h4⟩ := hr i e he
  exact ⟨A', c', hf, h1, h2, h3.keep fun o => hb.cell (p := ⟨b, o, none⟩) hbB, h4.below n hb⟩
theorem ExS.more {K : Nat} {w : World} {B B' : Nat} (hB : B ≤ B') : ∀ (n : Nat) {A : Option Addr} {l : List Ex}, ExS K n w B A l → ExS K n w B' A l
 | 0, _, _, h => h
 | n + 1, _, _, h => fun hl => by
  obtain ⟨b, off, rfl, hbB, hr⟩ := h hl
  refine ⟨b, off, rfl, by omega, fun i e he => ?_⟩
  obtain ⟨A', c', hf, h1, h2, h3, h4⟩ := hr i e he
  exact ⟨A', c', hf, h1, h2, h3, h4.more hB n⟩
theorem ExS.up {K : Nat} {w : World} {B : Nat} : ∀ (n : Nat) {A : Option Addr} {l : List Ex}, ExS K n w B A l → ExS K (n + 1) w B A l
 | 0, _, _, h => by cases h; exact ExS.nil 1
 | n + 1, _, _, h => fun hl => by
  obtain ⟨b, off, rfl, hbB, hr⟩ := h hl
  refine ⟨b, off, rfl, hbB, fun i e he => ?_⟩
  obtain ⟨A', c', hf, h1, h2, h3, h4⟩ := hr i e he
  exact ⟨A', c', hf, h1, h2, h3, h4.up n⟩
theorem ExS.ups {K : Nat} {w : World} {B : Nat} {A : Option Addr} {l : List Ex} {n : Nat} (h : ExS K n w B A l) : ∀ m, n ≤ m → ExS K m w B A l
 | 0, hm => by
  have : n = 0 := by omega
  subst this; exact h
 | m + 1, hm => by
  by_cases e : n = m + 1
  ·subst e; exact h
  ·exact (h.ups m (by omega)).up m
theorem ExS.at_ {K : Nat} {w : World} {B n : Nat} {A : Option Addr} {l : List Ex} (h : ExS K (n + 1) w B A l) {j : Nat} (hj : j < l.length) :
  ∃ b off e A' c', A = some ⟨b, off, none⟩ ∧ b < B ∧ l[j]? = some e ∧ e.fit K ∧ e.l.length ≤ c' ∧ c' ≤ maxLen ∧ Six w b (off + j * 6) e A' c' ∧ ExS K n w B A' e.l := by
 obtain ⟨b, off, rfl, hb, hr⟩ := h (by omega)
 obtain ⟨A', c', hf, h1, h2, h3, h4⟩ := hr j l[j] (List.getElem?_eq_getElem hj)
 exact ⟨b, off, l[j], A', c', rfl, hb, List.getElem?_eq_getElem hj, hf, h1, h2, h3, h4⟩
def Hgt : Nat → List Ex → Prop
 | 0, l => l = []
 | n + 1, l => ∀ e ∈ l, Hgt n e.l
theorem Hgt.nil : ∀ n, Hgt n []
 | 0 => rfl
 | _ + 1 => fun _ h => by simp at h
theorem ExS.hgt {K : Nat} {w : World} {B : Nat} : ∀ (n : Nat) {A : Option Addr} {l : List Ex}, ExS K n w B A l → Hgt n l
 | 0, _, _, h => h
 | n + 1, _, l, h => fun e he => by
  obtain ⟨i, hi, rfl⟩ := List.getElem_of_mem he
  obtain ⟨b, off, rfl, _, hr⟩ := h (by omega)
  obtain ⟨A', c', _, _, _, _, h4⟩ := hr i l[i] (List.getElem?_eq_getElem hi)
  exact h4.hgt n
theorem Hgt.up : ∀ (n : Nat) {l : List Ex}, Hgt n l → Hgt (n + 1) l
 | 0, _, h => by cases h; exact Hgt.nil 1
 | n + 1, _, h => fun e he => (h e he).up n
structure But (p : Nat) (w w' : World) : Prop where
 os : w'.os = w.os
 tape : w'.tape = w.tape
 output : w'.output = w.output
 size : w.heap.size ≤ w'.heap.size
 block : ∀ k, k < w.heap.size → k ≠ p → w'.heap[k]? = w.heap[k]?
theorem But.refl (p : Nat) (w : World) : But p w w := ⟨rfl, rfl, rfl, Nat.le_refl _, fun _ _ _ => rfl⟩
theorem But.trans {p : Nat} {a b c : World} (h : But p a b) (k : But p b c) : But p a c :=
 ⟨k.os.trans h.os, k.tape.trans h.tape, k.output.trans h.output, Nat.le_trans h.size k.size, fun i hi hp => (k.block i (Nat.lt_of_lt_of_le hi h.size) hp).trans (h.block i hi hp)⟩
theorem But.of_below {p : Nat} {w w' : World} (h : Below w.heap.size w w') : But p w w' := ⟨h.os, h.tape, h.output, h.size, fun k hk _ => h.block k hk⟩
theorem But.below {p : Nat} {w w' : World} (h : But p w w') (hp : p ≤ w.heap.size) : Below p w w' := ⟨h.os, h.tape, h.output, h.size, fun k hk => h.block k (by omega) (by omega)⟩
theorem But.blk {p : Nat} {w w' : World} (h : But p w w') {g : Nat} {t : TypeId} {cs : Array Value} (hb : Blk w g t cs) (hg : g ≠ p) : Blk w' g t cs := (h.block g hb.lt hg).trans hb
theorem But.inside {p : Nat} {w0 w w' : World} (h0 : Below w0.heap.size w0 w) (hp : w0.heap.size ≤ p) (h : But p w w') : Below w0.heap.size w0 w' :=
 ⟨h.os.trans h0.os, h.tape.trans h0.tape, h.output.trans h0.output, Nat.le_trans h0.size h.size, fun k hk => (h.block k (Nat.lt_of_lt_of_le hk h0.size) (by omega)).trans (h0.block k hk)⟩
structure Col where
 n : List UInt8
 t : Int
 b : Bool
def Col.cells (c : Col) : List Value := [.string ⟨c.n.toArray⟩, .int .i64 c.t, .bool c.b]
def ColRow (w : World) (b off : Nat) (l : List Col) : Prop := ∀ i v, l[i]? = some v → w.cell? ⟨b, off + i * 3, none⟩ = some (.string ⟨v.n.toArray⟩) ∧ w.cell? ⟨b, off + i * 3 + 1, none⟩ = some (.int .i64 v.t) ∧ w.cell? ⟨b, off + i * 3 + 2, none⟩ = some (.bool v.b)
def ColS (w : World) (B : Nat) (A : Option Addr) (l : List Col) : Prop := 0 < l.length → ∃ b off, A = some ⟨b, off, none⟩ ∧ b < B ∧ ColRow w b off l
theorem ColS.at_ {w : World} {B : Nat} {A : Option Addr} {l : List Col} (h : ColS w B A l) {j : Nat} (hj : j < l.length) :
  ∃ b off v, A = some ⟨b, off, none⟩ ∧ b < B ∧ l[j]? = some v ∧ w.cell? ⟨b, off + j * 3, none⟩ = some (.string ⟨v.n.toArray⟩) ∧ w.cell? ⟨b, off + j * 3 + 1, none⟩ = some (.int .i64 v.t) ∧ w.cell? ⟨b, off + j * 3 + 2, none⟩ = some (.bool v.b) := by
 obtain ⟨b, off, rfl, hb, hr⟩ := h (by omega)
 have hv : l[j]? = some l[j] := List.getElem?_eq_getElem hj
 obtain ⟨h0, h1, h2⟩ := hr j _ hv
 exact ⟨b, off, l[j], rfl, hb, hv, h0, h1, h2⟩
theorem ColS.below {w w' : World} {B : Nat} {A : Option Addr} {l : List Col} (h : ColS w B A l) (hb : Below B w w') : ColS w' B A l := fun hl => by
 obtain ⟨b, off, rfl, hbB, hr⟩ := h hl
 refine ⟨b, off, rfl, hbB, fun i v hv => ?_⟩
 have hk : ∀ o, w'.cell? ⟨b, o, none⟩ = w.cell? ⟨b, o, none⟩ := fun o => hb.cell (p := ⟨b, o, none⟩) hbB
 obtain ⟨h0, h1, h2⟩ := hr i v hv
 exact ⟨(hk _).trans h0, (hk _).trans h1, (hk _).trans h2⟩
theorem ColS.more {w : World} {B B' : Nat} {A : Option Addr} {l : List Col} (h : ColS w B A l) (hB : B ≤ B') : ColS w B' A l := fun hl => by
 obtain ⟨b, off, rfl, hbB, hr⟩ := h hl
 exact ⟨b, off, rfl, by omega, hr⟩
theorem ColS.nil {w : World} {B : Nat} {A : Option Addr} : ColS w B A [] := fun h => absurd h (by simp)
structure Tok where
 k : Int
 s : List UInt8
def Tok.cells (t : Tok) : List Value := [.int .i64 t.k, .string ⟨t.s.toArray⟩]
theorem Tok.cells_length (t : Tok) : t.cells.length = 2 := rfl
def TkRow (w : World) (b off : Nat) (l : List Tok) : Prop := ∀ i v, l[i]? = some v → w.cell? ⟨b, off + i * 2, none⟩ = some (.int .i64 v.k) ∧ w.cell? ⟨b, off + i * 2 + 1, none⟩ = some (.string ⟨v.s.toArray⟩)
def TkS (w : World) (B : Nat) (A : Option Addr) (l : List Tok) : Prop := 0 < l.length → ∃ b off, A = some ⟨b, off, none⟩ ∧ b < B ∧ TkRow w b off l
def TkF (w : World) (lo hi : Nat) (A : Option Addr) (l : List Tok) : Prop := 0 < l.length → ∃ b off, A = some ⟨b, off, none⟩ ∧ lo ≤ b ∧ b < hi ∧ TkRow w b off l
section
variable {w w' : World} {A : Option Addr} {l : List Tok}
theorem TkS.at_ {B : Nat} (h : TkS w B A l) {j : Nat} (hj : j < l.length) :
  ∃ b off v, A = some ⟨b, off, none⟩ ∧ b < B ∧ l[j]? = some v ∧ w.cell? ⟨b, off + j * 2, none⟩ = some (.int .i64 v.k) ∧ w.cell? ⟨b, off + j * 2 + 1, none⟩ = some (.string ⟨v.s.toArray⟩) := by
 obtain ⟨b, off, rfl, hb, hr⟩ := h (by omega)
 have hv : l[j]? = some l[j] := List.getElem?_eq_getElem hj
 obtain ⟨h0, h1⟩ := hr j _ hv
 exact ⟨b, off, l[j], rfl, hb, hv, h0, h1⟩
theorem TkRow.keep {b off : Nat} (h : TkRow w b off l) (hk : ∀ o, w'.cell? ⟨b, o, none⟩ = w.cell? ⟨b, o, none⟩) : TkRow w' b off l := by
 intro i v hv
 obtain ⟨h0, h1⟩ := h i v hv
 exact ⟨(hk _).trans h0, (hk _).trans h1⟩
theorem TkS.below {B : Nat} (h : TkS w B A l) (hb : Below B w w') : TkS w' B A l := fun hl => by
 obtain ⟨b, off, rfl, hbB, hr⟩ := h hl
 exact ⟨b, off, rfl, hbB, hr.keep fun o => hb.cell (p := ⟨b, o, none⟩) hbB⟩
theorem TkS.more {B B' : Nat} (h : TkS w B A l) (hB : B ≤ B') : TkS w B' A l := fun hl => by
 obtain ⟨b, off, rfl, hbB, hr⟩ := h hl
 exact ⟨b, off, rfl, by omega, hr⟩
theorem TkS.nil {B : Nat} : TkS w B A [] := fun h => absurd h (by simp)
theorem TkF.nil {lo hi : Nat} : TkF w lo hi A [] := fun h => absurd h (by simp)
theorem TkF.vs {lo hi B : Nat} (h : TkF w lo hi A l) (hB : hi ≤ B) : TkS w B A l := fun hl => by
 obtain ⟨b, off, rfl, _, h2, h3⟩ := h hl
 exact ⟨b, off, rfl, by omega, h3⟩
theorem TkF.below {lo hi B : Nat} (h : TkF w lo hi A l) (hb : Below B w w') (hB : hi ≤ B) : TkF w' lo hi A l := fun hl => by
 obtain ⟨b, off, rfl, h1, h2, h3⟩ := h hl
 exact ⟨b, off, rfl, h1, h2, h3.keep fun o => hb.cell (p := ⟨b, o, none⟩) (by show b < B; omega)⟩
end
theorem tk_at : ∀ (l : List Tok) (i j : Nat) (v : Tok), l[i]? = some v → j < 2 → (l.flatMap Tok.cells)[i * 2 + j]? = v.cells[j]? := by
 intro l
 induction l with
 | nil => intro i j v h; simp at h
 | cons x r ih =>
  intro i j v h hj
  cases i with
  | zero =>
   simp at h; subst h
   rw [List.flatMap_cons, List.getElem?_append_left (by rw [Tok.cells_length]; omega)]
   simp
  | succ i =>
   rw [List.flatMap_cons, List.getElem?_append_right (by rw [Tok.cells_length]; omega), Tok.cells_length]
   have e : (i + 1) * 2 + j - 2 = i * 2 + j := by omega
   rw [e]
   exact ih i j v (by simpa using h) hj
theorem tk_len (l : List Tok) : (l.flatMap Tok.cells).length = l.length * 2 := by
 induction l with
 | nil => rfl
 | cons x r ih => rw [List.flatMap_cons, List.length_append, ih, Tok.cells_length, List.length_cons]; omega
theorem tk_one (l : List Tok) : ∀ u ∈ l.flatMap Tok.cells, u.oneCell' = true := by
 intro u hu
 rw [List.mem_flatMap] at hu
 obtain ⟨v, _, hv⟩ := hu
 simp only [Tok.cells, List.mem_cons, List.not_mem_nil, or_false] at hv
 rcases hv with rfl | rfl <;> rfl
theorem TkS.own {w : World} {base : Nat} {e : TypeId} {sv : Value} {n : Nat} {l : List Tok} (h : w.ownsRow base e 2 sv n (l.flatMap Tok.cells)) :
  ∃ A c, sv = .slice A l.length c ∧ l.length ≤ c ∧ c ≤ maxLen ∧ TkF w base w.heap.size A l := by
 have hn : l.length = n := by have := h.1; rw [tk_len] at this; omega
 rcases h.2 with ⟨rfl, h0⟩ | ⟨g, cap, cur, rfl, hb, hg, hnc, hcm, hcs, htk⟩
 ·refine ⟨none, 0, ?_, by omega, Nat.zero_le _, fun hl => absurd hl (by omega)⟩
  rw [hn, h0]
 ·refine ⟨some ⟨g, 0, none⟩, cap, by rw [hn], by omega, hcm, fun _ => ⟨g, 0, rfl, hb, ?_, ?_⟩⟩
  ·exact (Array.getElem?_eq_some_iff.1 hg).1
  ·intro i v hv
   have hc := h.cells (g := g) rfl
   have key : ∀ j u, j < 2 → v.cells[j]? = some u → w.cell? ⟨g, 0 + i * 2 + j, none⟩ = some u := by
    intro j u hj hu
    have := hc (i * 2 + j) u (by rw [tk_at l i j v hv hj]; exact hu)
    rw [add_mid] at this
    rw [Nat.add_assoc]
    exact this
   exact ⟨key 0 _ (by omega) rfl, key 1 _ (by omega) rfl⟩
def RetTk (l : List Tok) (n : Int) (w : World) (e : Ending) (w' : World) : Prop :=
 ∃ A c, e = .returned (.tuple #[.slice A l.length c, .int .i64 n]) ∧ l.length ≤ c ∧ c ≤ maxLen ∧ TkF w' w.heap.size w'.heap.size A l ∧ Below w.heap.size w w'
section
variable {P : Program}
theorem run_copy_rowN (w : World) (dT sT ty elem : TypeId) (size n g o dLen dCap : Nat) (a : Addr) (sLen sCap : Nat) (cur : Array Value) (t : TypeId) (cs : List Value)
  (hu : P.underlying dT = some (.slice elem)) (hs : (P.info? elem).map (·.size) = some size) (hn : Nat.min sLen dLen = n) (hl : cs.length = n * size)
  (hg : Blk w g t cur) (hsrc : ∀ j v, cs[j]? = some v → w.cell? (a.add j) = some v) (hfit : o + cs.length ≤ cur.size) (h1 : ∀ v ∈ cs, v.oneCell' = true) :
  (Builtin.copy_ #[dT, sT] ty #[.slice (some ⟨g, o, none⟩) dLen dCap, .slice (some a) sLen sCap]).run P w =
   .ok (goInt n) (w.setRow g (cur.toList.take o ++ cs ++ cur.toList.drop (o + cs.length)).toArray) := by
 have hld := run_loadCells_list (P := P) w a cs hsrc
 have hst := run_storeCells_at P g o t cs 0 cur w hg (by simpa using hfit) h1
 cases hq : P.info? elem with
 | none => simp [hq] at hs
 | some i =>
  have hi : i.size = size := by simpa [hq] using hs
  simp [Builtin.copy_, run_underlying hu, Builtin.lenOf, Builtin.firstCells, sizeOf, typeInfo, hq, hi, hn, ← hl, hld, hst]
theorem step_copyR {ops : Array Oper} {o : Oper} {a : Act} {w : World} {K : Act → World → Prop} {Q : Exit → Act → World → Prop} {E : Prop}
  (hg : o.guard = none) (d x : Operand) (dT sT : TypeId) (hop : o.op = Op.call { callee := Callee.builtin Builtin.copy, args := #[d, x], argTypes := #[dT, sT] })
  (v u : Value) (hd : a.eval d = v) (hx : a.eval x = u) {v' : Value} {w' : World} (hr : (Builtin.copy_ #[dT, sT] o.type #[v, u]).run P w = .ok v' w') (hK : K (a.put o.dst v') w') :
  if Region.wanted o (yielded ops a.tmps) = true then Oper.wp P o a w K Q else E := by
 have hw : Region.wanted o (yielded ops a.tmps) = true := by simp [Region.wanted, hg]
 rw [if_pos hw]
 unfold Oper.wp
 simp [execOp, hop, resolve, invoke, builtin, hd, hx, hr, Result.andThen]
 exact hK
theorem run_clear_rowN (w : World) (t e ty : TypeId) (z : Value) (ht : P.underlying t = some (.slice e)) (hv : ∀ w, (zeroValue e).run P w = .ok z w) (g o n c : Nat) (hn : 0 < n) (cur : Array Value) (t' : TypeId) (hg : Blk w g t' cur)
  (hfit : o + (Builtin.zeroCells z.cells n).size ≤ cur.size) (h1 : ∀ v ∈ (Builtin.zeroCells z.cells n).toList, v.oneCell' = true) :
  (Builtin.clear_ #[t] ty #[.slice (some ⟨g, o, none⟩) n c]).run P w = .ok (.tuple #[]) (w.setRow g (cur.toList.take o ++ (Builtin.zeroCells z.cells n).toList ++ cur.toList.drop (o + (Builtin.zeroCells z.cells n).toList.length)).toArray) := by
 have hst := run_storeCells_at P g o t' (Builtin.zeroCells z.cells n).toList 0 cur w hg (by simpa using hfit) h1
 obtain ⟨m, rfl⟩ : ∃ m, n = m + 1 := ⟨n - 1, by omega⟩
 simp only [Nat.add_zero] at hst
 simp [Builtin.clear_, run_underlying ht, hv, hst]
end
theorem Blk.row {w : World} {g : Nat} {t : TypeId} {cur : Array Value} (h : Blk w g t cur) (cs : Array Value) : Blk (w.setRow g cs) g t cs := setRow_heap w g cur cs t (0, 0) h
theorem setRow_block (w : World) (g k : Nat) (cs : Array Value) (hk : k ≠ g) : (w.setRow g cs).heap[k]? = w.heap[k]? := by
 unfold World.setRow
 simp only
 rw [Array.getElem?_modify, if_neg (Ne.symm hk)]
theorem Blk.rowFar {w : World} {g k : Nat} {t : TypeId} {cur : Array Value} (h : Blk w k t cur) (hk : k ≠ g) (cs : Array Value) : Blk (w.setRow g cs) k t cur := (setRow_block w g k cs hk).trans h
theorem setRow_size (w : World) (g : Nat) (cs : Array Value) : (w.setRow g cs).heap.size = w.heap.size := by unfold World.setRow; simp
theorem bwRow {B : Nat} {a w : World} {g : Nat} (h : Below B a w) (hg : B ≤ g) (cs : Array Value) : Below B a (w.setRow g cs) :=
 ⟨h.os, h.tape, h.output, by rw [setRow_size]; exact h.size, fun k hk => (setRow_block w g k cs (by omega)).trans (h.block k hk)⟩
theorem Blk.own {w : World} {base g : Nat} {t : TypeId} {cur : Array Value} {size n cap : Nat} {xs : List Value} (h : Blk w g t cur) (hb : base ≤ g) (hn : n ≤ cap) (hc : cap ≤ maxLen) (hs : cur.size = cap * size) (hx : cur.toList.take (n * size) = xs) :
  w.ownsRow base t size (.slice (some ⟨g, 0, none⟩) n cap) n xs := by
 refine ⟨?_, .inr ⟨g, cap, cur, rfl, hb, h, hn, hc, hs, hx⟩⟩
 rw [← hx, List.length_take, Array.length_toList, hs]
 exact Nat.min_eq_left (Nat.mul_le_mul_right _ hn)
theorem zeroCells_len (z : Array Value) (n : Nat) : (Builtin.zeroCells z n).toList.length = n * z.size := by rw [Array.length_toList]; exact size_zeroCells z n
theorem mod_size {n : Nat} {z : Array Value} (h : 0 < z.size) : n % z.size < z.size := Nat.mod_lt _ h
theorem zeroCells_one (z : Array Value) (n : Nat) (hz : 0 < z.size) (h : ∀ v ∈ z.toList, v.oneCell' = true) : ∀ v ∈ (Builtin.zeroCells z n).toList, v.oneCell' = true := by
 intro v hv
 unfold Builtin.zeroCells at hv
 rw [Array.toList_map, List.mem_map] at hv
 obtain ⟨i, _, rfl⟩ := hv
 refine h _ ?_
 rw [getElem!_pos z _ (mod_size hz)]
 exact Array.getElem_mem_toList _
end Go.Proofs.YtchilcchogcibaaGreatDoor
