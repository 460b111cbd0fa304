/- Several reads of a drawn region taken first, one behind the other, by a list of their numbers; and words that stand for a walk's common tactics (short texts); Plain words for expressions (trees) and columns; Rows that a call owns, known whole; append onto a row of the call's own, from a slice of values that may be nil. -/
import Derived.Deep.RegionHeld3
import Derived.Laws.CopyRow
import Derived.Lib.Overlaps
import Derived.Lib.AppendZeros
import Derived.Lib.AppendZerosOnto
import Derived.Lib.SliceRun
import Derived.Test.YtchilcchogcibaaGreatDoorEBase
namespace Go.Proofs.YtchilcchogcibaaGreatDoor
open Go Go.RowKit
theorem ap {X Z : Prop} (k : Z) (h : X = Z := by ((try simp only [Act.put, List.getElem_toArray, List.getElem_cons_zero, List.getElem_cons_succ, List.setIfInBounds_toArray, List.set_cons_zero, List.set_cons_succ]); first | done | with_reducible rfl)) : X := h ▸ k
section
variable {P : Program} {ops : Array Oper} {Q : Exit → Act → World → Prop} {md : Region.Mode} {S : World → Prop} {fuel : Nat} {listed : Array Bool} {a : Act} {w : World}
def wpAnyT (_is : List Nat) (P : Program) (md : Region.Mode) (ops : Array Oper) (Q : Exit → Act → World → Prop) (S : World → Prop) (fuel : Nat) (listed : Array Bool) (a : Act) (w : World) : Prop := wpAnyH P md ops Q S fuel listed a w
theorem tS (is : List Nat) (h : wpAnyT is P md ops Q S fuel listed a w) : wpAnyH P md ops Q S fuel listed a w := h
theorem tN (h : wpAnyH P md ops Q S fuel listed a w) : wpAnyT [] P md ops Q S fuel listed a w := h
theorem tC {i : Nat} {is : List Nat} {oi : Oper} {v : Value}
  (h : wpAnyT is P md ops Q S fuel (listed.setIfInBounds i true) (a.put oi.dst v) w)
  (hi : ops[i]? = some oi := by rfl) (hs : Region.noSelect ops = true := by kernel_rfl) (hf : Region.free md ops listed i = true := by kernel_rfl) (hr : (Region.ready md ops listed).contains i = true := by kernel_rfl)
  (hQ : ∀ c a w, Q (.panic c) (a.put oi.dst v) w → Q (.panic c) a w := by exact fun _ _ _ h => h)
  (hy : YieldsIf P ops S oi v a := by (refine Or.inl ⟨by rfl, ?_⟩; intro wq hSw; (try dsimp only at hSw); go_simp; first | done | with_reducible rfl | rw [if_neg (by omega)]))
  (hS : S w := by assumption) : wpAnyT (i :: is) P md ops Q S (fuel + 1) listed a w :=
 wpAnyH_take hi hs hf hr hQ hy hS h
theorem tX {i : Nat} {is : List Nat} {oi : Oper}
  (h : wpAnyT is P md ops Q S fuel (listed.setIfInBounds i true) (a.put oi.dst undef) w)
  (hi : ops[i]? = some oi := by rfl) (hs : Region.noSelect ops = true := by kernel_rfl) (hf : Region.free md ops listed i = true := by kernel_rfl) (hr : (Region.ready md ops listed).contains i = true := by kernel_rfl)
  (hQ : ∀ c a w, Q (.panic c) (a.put oi.dst undef) w → Q (.panic c) a w := by exact fun _ _ _ h => h)
  (hy : YieldsIf P ops S oi undef a := by exact Or.inr ⟨by rfl, rfl⟩)
  (hS : S w := by assumption) : wpAnyT (i :: is) P md ops Q S (fuel + 1) listed a w :=
 wpAnyH_take hi hs hf hr hQ hy hS h
theorem rgn {id : Nat} {w0 : World} (HS : Hid (∀ Z : World, Below w0.heap.size w0 Z → S Z)) (h : S w.drew → wpAnyH P .any ops Q S ops.size (Array.replicate ops.size false) a w.drew)
  (hb : Below w0.heap.size w0 w.drew := by exact bl) (hm : P.follows .mixedOrders = true := by kernel_rfl) : (Code.region id ops true).wp P Q a w :=
 wp_region_held_drew hm (HS.out _ hb) h
theorem rdy (i : Nat) {o : Oper} (h : ∀ K' : Act → World → Prop, Shut (∀ a w, S w → (S w → wpAnyH P md ops Q S fuel (listed.setIfInBounds i true) a w) → K' a w) → if Region.wanted o (yielded ops a.tmps) = true then Oper.wp P o a w K' Q else K' (a.put o.dst undef) w)
  (hr : Region.ready md ops listed = [i] := by kernel_rfl) (ho : ops[i]? = some o := by rfl) : wpAnyH P md ops Q S (fuel + 1) listed a w :=
 wpAnyH_ready hr (by simp) (AllReadyH.cons ho h AllReadyH.nil)
end
end Go.Proofs.YtchilcchogcibaaGreatDoor
namespace Go.Proofs.YtchilcchogcibaaGreatDoor
open Go.RowKit
inductive Ex where
 | mk (op : List UInt8) (v : V) (s : List UInt8) (l : List Ex)
def Ex.op : Ex → List UInt8 | .mk o _ _ _ => o
def Ex.v : Ex → V | .mk _ v _ _ => v
def Ex.s : Ex → List UInt8 | .mk _ _ s _ => s
def Ex.l : Ex → List Ex | .mk _ _ _ l => l
theorem Ex.eta (e : Ex) : e = .mk e.op e.v e.s e.l := by cases e; rfl
def Ex.cells (e : Ex) (A : Option Addr) (c : Nat) : List Value :=
 [.string ⟨e.op.toArray⟩, .int .i64 e.v.k, .int .i64 e.v.i, .string ⟨e.v.s.toArray⟩, .string ⟨e.s.toArray⟩, .slice A e.l.length c]
def Six (w : World) (b o : Nat) (e : Ex) (A : Option Addr) (c : Nat) : Prop :=
 w.cell? ⟨b, o, none⟩ = some (.string ⟨e.op.toArray⟩) ∧ w.cell? ⟨b, o + 1, none⟩ = some (.int .i64 e.v.k) ∧ w.cell? ⟨b, o + 2, none⟩ = some (.int .i64 e.v.i) ∧
  w.cell? ⟨b, o + 3, none⟩ = some (.string ⟨e.v.s.toArray⟩) ∧ w.cell? ⟨b, o + 4, none⟩ = some (.string ⟨e.s.toArray⟩) ∧ w.cell? ⟨b, o + 5, none⟩ = some (.slice A e.l.length c)
def Ex.fit (K : Nat) (e : Ex) : Prop := (-9223372036854775808 ≤ e.v.i ∧ e.v.i ≤ 9223372036854775807) ∧ e.op.length ≤ K ∧ e.s.length ≤ K ∧ e.v.s.length ≤ K
def ExS (K : Nat) : Nat → World → Nat → Option Addr → List Ex → Prop
 | 0, _, _, _, l => l = []
 | n + 1, w, B, A, l => 0 < l.length → ∃ b off, A = some ⟨b, off, none⟩ ∧ b < B ∧ ∀ i e, l[i]? = some e →
   ∃ A' c', e.fit K ∧ e.l.length ≤ c' ∧ c' ≤ maxLen ∧ Six w b (off + i * 6) e A' c' ∧ ExS K n w B A' e.l
theorem Six.keep {w w' : World} {b o : Nat} {e : Ex} {A : Option Addr} {c : Nat} (h : Six w b o e A c) (hk : ∀ o, w'.cell? ⟨b, o, none⟩ = w.cell? ⟨b, o, none⟩) : Six w' b o e A c := by
 obtain ⟨h0, h1, h2, h3, h4, h5⟩ := h
 exact ⟨(hk _).trans h0, (hk _).trans h1, (hk _).trans h2, (hk _).trans h3, (hk _).trans h4, (hk _).trans h5⟩
theorem ExS.nil {K : Nat} {w : World} {B : Nat} {A : Option Addr} : ∀ n, ExS K n w B A []
 | 0 => rfl
 | _ + 1 => fun h => absurd h (by simp)
theorem ExS.below {K : Nat} {w w' : World} {B : Nat} : ∀ (n : Nat) {A : Option Addr} {l : List Ex}, ExS K n w B A l → Below B w w' → ExS K n w' B A l
 | 0, _, _, h, _ => h
 | n + 1, _, _, h, hb => fun hl => by
  obtain ⟨b, off, rfl, hbB, hr⟩ := h hl
  refine ⟨b, off, rfl, hbB, fun i e he => ?_⟩
  obtain ⟨A', c', hf, h1, h2, h3, h4⟩ := hr i e he
  exact ⟨A', c', hf, h1, h2, h3.keep fun o => hb.cell (p := ⟨b, o, none⟩) hbB, h4.below n hb⟩
theorem ExS.more {K : Nat} {w : World} {B B' : Nat} (hB : B ≤ B') : ∀ (n : Nat) {A : Option Addr} {l : List Ex}, ExS K n w B A l → ExS K n w B' A l
 | 0, _, _, h => h
 | n + 1, _, _, h => fun hl => by
  obtain ⟨b, off, rfl, hbB, hr⟩ := h hl
  refine ⟨b, off, rfl, by omega, fun i e he => ?_⟩
  obtain ⟨A', c', hf, h1, h2, h3, h4⟩ := hr i e he
  exact ⟨A', c', hf, h1, h2, h3, h4.more hB n⟩
theorem ExS.up {K : Nat} {w : World} {B : Nat} : ∀ (n : Nat) {A : Option Addr} {l : List Ex}, ExS K n w B A l → ExS K (n + 1) w B A l
 | 0, _, _, h => by cases h; exact ExS.nil 1
 | n + 1, _, _, h => fun hl => by
  obtain ⟨b, off, rfl, hbB, hr⟩ := h hl
  refine ⟨b, off, rfl, hbB, fun i e he => ?_⟩
  obtain ⟨A', c', hf, h1, h2, h3, h4⟩ := hr i e he
  exact ⟨A', c', hf, h1, h2, h3, h4.up n⟩
theorem ExS.ups {K : Nat} {w : World} {B : Nat} {A : Option Addr} {l : List Ex} {n : Nat} (h : ExS K n w B A l) : ∀ m, n ≤ m → ExS K m w B A l
 | 0, hm => by
  have : n = 0 := by omega
  subst this; exact h
 | m + 1, hm => by
  by_cases e : n = m + 1
  ·subst e; exact h
  ·exact (h.ups m (by omega)).up m
theorem ExS.at_ {K : Nat} {w : World} {B n : Nat} {A : Option Addr} {l : List Ex} (h : ExS K (n + 1) w B A l) {j : Nat} (hj : j < l.length) :
  ∃ b off e A' c', A = some ⟨b, off, none⟩ ∧ b < B ∧ l[j]? = some e ∧ e.fit K ∧ e.l.length ≤ c' ∧ c' ≤ maxLen ∧ Six w b (off + j * 6) e A' c' ∧ ExS K n w B A' e.l := by
 obtain ⟨b, off, rfl, hb, hr⟩ := h (by omega)
 obtain ⟨A', c', hf, h1, h2, h3, h4⟩ := hr j l[j] (List.getElem?_eq_getElem hj)
 exact ⟨b, off, l[j], A', c', rfl, hb, List.getElem?_eq_getElem hj, hf, h1, h2, h3, h4⟩
def Hgt : Nat → List Ex → Prop
 | 0, l => l = []
 | n + 1, l => ∀ e ∈ l, Hgt n e.l
theorem Hgt.nil : ∀ n, Hgt n []
 | 0 => rfl
 | _ + 1 => fun _ h => by simp at h
theorem ExS.hgt {K : Nat} {w : World} {B : Nat} : ∀ (n : Nat) {A : Option Addr} {l : List Ex}, ExS K n w B A l → Hgt n l
 | 0, _, _, h => h
 | n + 1, _, l, h => fun e he => by
  obtain ⟨i, hi, rfl⟩ := List.getElem_of_mem he
  obtain ⟨b, off, rfl, _, hr⟩ := h (by omega)
  obtain ⟨A', c', _, _, _, _, h4⟩ := hr i l[i] (List.getElem?_eq_getElem hi)
  exact h4.hgt n
theorem Hgt.up : ∀ (n : Nat) {l : List Ex}, Hgt n l → Hgt (n + 1) l
 | 0, _, h => by cases h; exact Hgt.nil 1
 | n + 1, _, h => fun e he => (h e he).up n
structure But (p : Nat) (w w' : World) : Prop where
 os : w'.os = w.os
 tape : w'.tape = w.tape
 output : w'.output = w.output
 size : w.heap.size ≤ w'.heap.size
 block : ∀ k, k < w.heap.size → k ≠ p → w'.heap[k]? = w.heap[k]?
theorem But.refl (p : Nat) (w : World) : But p w w := ⟨rfl, rfl, rfl, Nat.le_refl _, fun _ _ _ => rfl⟩
theorem But.trans {p : Nat} {a b c : World} (h : But p a b) (k : But p b c) : But p a c :=
 ⟨k.os.trans h.os, k.tape.trans h.tape, k.output.trans h.output, Nat.le_trans h.size k.size, fun i hi hp => (k.block i (Nat.lt_of_lt_of_le hi h.size) hp).trans (h.block i hi hp)⟩
theorem But.of_below {p : Nat} {w w' : World} (h : Below w.heap.size w w') : But p w w' := ⟨h.os, h.tape, h.output, h.size, fun k hk _ => h.block k hk⟩
theorem But.below {p : Nat} {w w' : World} (h : But p w w') (hp : p ≤ w.heap.size) : Below p w w' := ⟨h.os, h.tape, h.output, h.size, fun k hk => h.block k (by omega) (by omega)⟩
theorem But.blk {p : Nat} {w w' : World} (h : But p w w') {g : Nat} {t : TypeId} {cs : Array Value} (hb : Blk w g t cs) (hg : g ≠ p) : Blk w' g t cs := (h.block g hb.lt hg).trans hb
theorem But.inside {p : Nat} {w0 w w' : World} (h0 : Below w0.heap.size w0 w) (hp : w0.heap.size ≤ p) (h : But p w w') : Below w0.heap.size w0 w' :=
 ⟨h.os.trans h0.os, h.tape.trans h0.tape, h.output.trans h0.output, Nat.le_trans h0.size h.size, fun k hk => (h.block k (Nat.lt_of_lt_of_le hk h0.size) (by omega)).trans (h0.block k hk)⟩
structure Col where
 n : List UInt8
 t : Int
 b : Bool
def Col.cells (c : Col) : List Value := [.string ⟨c.n.toArray⟩, .int .i64 c.t, .bool c.b]
def ColRow (w : World) (b off : Nat) (l : List Col) : Prop := ∀ i v, l[i]? = some v → w.cell? ⟨b, off + i * 3, none⟩ = some (.string ⟨v.n.toArray⟩) ∧ w.cell? ⟨b, off + i * 3 + 1, none⟩ = some (.int .i64 v.t) ∧ w.cell? ⟨b, off + i * 3 + 2, none⟩ = some (.bool v.b)
def ColS (w : World) (B : Nat) (A : Option Addr) (l : List Col) : Prop := 0 < l.length → ∃ b off, A = some ⟨b, off, none⟩ ∧ b < B ∧ ColRow w b off l
theorem ColS.at_ {w : World} {B : Nat} {A : Option Addr} {l : List Col} (h : ColS w B A l) {j : Nat} (hj : j < l.length) :
  ∃ b off v, A = some ⟨b, off, none⟩ ∧ b < B ∧ l[j]? = some v ∧ w.cell? ⟨b, off + j * 3, none⟩ = some (.string ⟨v.n.toArray⟩) ∧ w.cell? ⟨b, off + j * 3 + 1, none⟩ = some (.int .i64 v.t) ∧ w.cell? ⟨b, off + j * 3 + 2, none⟩ = some (.bool v.b) := by
 obtain ⟨b, off, rfl, hb, hr⟩ := h (by omega)
 have hv : l[j]? = some l[j] := List.getElem?_eq_getElem hj
 obtain ⟨h0, h1, h2⟩ := hr j _ hv
 exact ⟨b, off, l[j], rfl, hb, hv, h0, h1, h2⟩
theorem ColS.below {w w' : World} {B : Nat} {A : Option Addr} {l : List Col} (h : ColS w B A l) (hb : Below B w w') : ColS w' B A l := fun hl => by
 obtain ⟨b, off, rfl, hbB, hr⟩ := h hl
 refine ⟨b, off, rfl, hbB, fun i v hv => ?_⟩
 have hk : ∀ o, w'.cell? ⟨b, o, none⟩ = w.cell? ⟨b, o, none⟩ := fun o => hb.cell (p := ⟨b, o, none⟩) hbB
 obtain ⟨h0, h1, h2⟩ := hr i v hv
 exact ⟨(hk _).trans h0, (hk _).trans h1, (hk _).trans h2⟩
theorem ColS.more {w : World} {B B' : Nat} {A : Option Addr} {l : List Col} (h : ColS w B A l) (hB : B ≤ B') : ColS w B' A l := fun hl => by
 obtain ⟨b, off, rfl, hbB, hr⟩ := h hl
 exact ⟨b, off, rfl, by omega, hr⟩
theorem ColS.nil {w : World} {B : Nat} {A : Option Addr} : ColS w B A [] := fun h => absurd h (by simp)
theorem Blk.row {w : World} {g : Nat} {t : TypeId} {cur : Array Value} (h : Blk w g t cur) (cs : Array Value) : Blk (w.setRow g cs) g t cs := setRow_heap w g cur cs t (0, 0) h
theorem setRow_block (w : World) (g k : Nat) (cs : Array Value) (hk : k ≠ g) : (w.setRow g cs).heap[k]? = w.heap[k]? := by
 unfold World.setRow
 simp only
 rw [Array.getElem?_modify, if_neg (Ne.symm hk)]
theorem setRow_size (w : World) (g : Nat) (cs : Array Value) : (w.setRow g cs).heap.size = w.heap.size := by unfold World.setRow; simp
theorem bwRow {B : Nat} {a w : World} {g : Nat} (h : Below B a w) (hg : B ≤ g) (cs : Array Value) : Below B a (w.setRow g cs) :=
 ⟨h.os, h.tape, h.output, by rw [setRow_size]; exact h.size, fun k hk => (setRow_block w g k cs (by omega)).trans (h.block k hk)⟩
theorem Blk.own {w : World} {base g : Nat} {t : TypeId} {cur : Array Value} {size n cap : Nat} {xs : List Value} (h : Blk w g t cur) (hb : base ≤ g) (hn : n ≤ cap) (hc : cap ≤ maxLen) (hs : cur.size = cap * size) (hx : cur.toList.take (n * size) = xs) :
  w.ownsRow base t size (.slice (some ⟨g, 0, none⟩) n cap) n xs := by
 refine ⟨?_, .inr ⟨g, cap, cur, rfl, hb, h, hn, hc, hs, hx⟩⟩
 rw [← hx, List.length_take, Array.length_toList, hs]
 exact Nat.min_eq_left (Nat.mul_le_mul_right _ hn)
def Reads (w : World) (B size : Nat) (A : Option Addr) (n : Nat) (xs : List Value) : Prop :=
 xs.length = n * size ∧ (0 < n → ∃ ad, A = some ad ∧ ad.block < B ∧ ∀ j u, xs[j]? = some u → w.cell? (ad.add j) = some u)
theorem VS.reads {w : World} {B : Nat} {A : Option Addr} {l : List V} (h : VS w B A l) : Reads w B 3 A l.length (l.flatMap V.cells) := by
 refine ⟨cells_len l, fun hn => ?_⟩
 obtain ⟨b, off, rfl, hb, hr⟩ := h hn
 refine ⟨⟨b, off, none⟩, rfl, hb, fun j u hu => ?_⟩
 have hj : j < (l.flatMap V.cells).length := by
  rcases Nat.lt_or_ge j (l.flatMap V.cells).length with h1 | h1
  ·exact h1
  ·rw [List.getElem?_eq_none h1] at hu; cases hu
 rw [cells_len] at hj
 have hi : j / 3 < l.length := by omega
 have hv : l[j / 3]? = some l[j / 3] := List.getElem?_eq_getElem hi
 have e : j = j / 3 * 3 + j % 3 := by omega
 have hc := cells_at l (j / 3) (j % 3) _ hv (Nat.mod_lt _ (by omega))
 rw [← e, hu] at hc
 obtain ⟨h0, h1, h2⟩ := hr (j / 3) _ hv
 rw [add_mid]
 have hm : j % 3 = 0 ∨ j % 3 = 1 ∨ j % 3 = 2 := by omega
 rcases hm with hm | hm | hm <;> rw [hm] at hc e <;> simp [V.cells] at hc <;> subst hc
 ·rw [show off + j = off + j / 3 * 3 by omega]; exact h0
 ·rw [show off + j = off + j / 3 * 3 + 1 by omega]; exact h1
 ·rw [show off + j = off + j / 3 * 3 + 2 by omega]; exact h2
end Go.Proofs.YtchilcchogcibaaGreatDoor
