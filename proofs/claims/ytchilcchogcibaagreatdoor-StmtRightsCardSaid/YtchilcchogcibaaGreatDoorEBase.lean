/- Plain words for memory: values of api.Value as three cells, slices of them, and what a call that only makes new memory leaves. Nothing of the program stands here.. -/
import Derived.WalkKit
import Derived.WalkSpells
import Derived.WalkLawsBesides
import Derived.Lib.OthersKept
import Derived.Lib.TrimU
import Derived.Deep.LoopGhost
import Derived.Lib.Hide
import Derived.Deep.Light
import Derived.Deep.QuietTactic
import Derived.BigQuiet
import Derived.Deep.Draws
import Derived.Deep.OwnRows
import Derived.Maps.AppendAt
import Derived.Deep.AppendLies
import Derived.ProofKit
import Derived.Deep.Slices
import Derived.Deep.Fields
namespace Go.Proofs.YtchilcchogcibaaGreatDoor
open Go.RowKit
structure V where
 k : Int
 i : Int
 s : List UInt8
def V.zero : V := ⟨0, 0, []⟩
def V.cells (v : V) : List Value := [.int .i64 v.k, .int .i64 v.i, .string ⟨v.s.toArray⟩]
theorem V.cells_length (v : V) : v.cells.length = 3 := rfl
def VRow (w : World) (b off : Nat) (l : List V) : Prop :=
 ∀ i v, l[i]? = some v → w.cell? ⟨b, off + i * 3, none⟩ = some (.int .i64 v.k) ∧ w.cell? ⟨b, off + i * 3 + 1, none⟩ = some (.int .i64 v.i) ∧ w.cell? ⟨b, off + i * 3 + 2, none⟩ = some (.string ⟨v.s.toArray⟩)
def VS (w : World) (B : Nat) (A : Option Addr) (l : List V) : Prop :=
 0 < l.length → ∃ b off, A = some ⟨b, off, none⟩ ∧ b < B ∧ VRow w b off l
theorem VS.at_ {w : World} {B : Nat} {A : Option Addr} {l : List V} (h : VS w B A l) {j : Nat} (hj : j < l.length) :
  ∃ b off v, A = some ⟨b, off, none⟩ ∧ b < B ∧ l[j]? = some v ∧ w.cell? ⟨b, off + j * 3, none⟩ = some (.int .i64 v.k) ∧ w.cell? ⟨b, off + j * 3 + 1, none⟩ = some (.int .i64 v.i) ∧ w.cell? ⟨b, off + j * 3 + 2, none⟩ = some (.string ⟨v.s.toArray⟩) := by
 obtain ⟨b, off, rfl, hb, hr⟩ := h (by omega)
 have hv : l[j]? = some l[j] := List.getElem?_eq_getElem hj
 obtain ⟨h0, h1, h2⟩ := hr j _ hv
 exact ⟨b, off, l[j], rfl, hb, hv, h0, h1, h2⟩
def VF (w : World) (lo hi : Nat) (A : Option Addr) (l : List V) : Prop :=
 0 < l.length → ∃ b off, A = some ⟨b, off, none⟩ ∧ lo ≤ b ∧ b < hi ∧ VRow w b off l
theorem VRow.keep {w w' : World} {b off : Nat} {l : List V} (h : VRow w b off l) (hk : ∀ o, w'.cell? ⟨b, o, none⟩ = w.cell? ⟨b, o, none⟩) : VRow w' b off l := by
 intro i v hv
 obtain ⟨h0, h1, h2⟩ := h i v hv
 exact ⟨(hk _).trans h0, (hk _).trans h1, (hk _).trans h2⟩
section
variable {w w' : World} {lo hi : Nat} {A : Option Addr} {l : List V}
theorem VF.vs (h : VF w lo hi A l) {B : Nat} (hB : hi ≤ B) : VS w B A l := fun hl => by
 obtain ⟨b, off, rfl, _, h2, h3⟩ := h hl
 exact ⟨b, off, rfl, by omega, h3⟩
theorem VF.below (h : VF w lo hi A l) {B : Nat} (hb : Below B w w') (hB : hi ≤ B) : VF w' lo hi A l := fun hl => by
 obtain ⟨b, off, rfl, h1, h2, h3⟩ := h hl
 exact ⟨b, off, rfl, h1, h2, h3.keep fun o => hb.cell (p := ⟨b, o, none⟩) (by show b < B; omega)⟩
theorem VF.alloc (h : VF w lo hi A l) (hB : hi ≤ w.heap.size) (o : Obj) : VF (w.alloc o) lo hi A l := h.below ((Below.refl w.heap.size w).alloc (Nat.le_refl _) o) hB
theorem VF.drew (h : VF w lo hi A l) : VF w.drew lo hi A l := h
theorem VF.drewN (h : VF w lo hi A l) (n : Nat) : VF (w.drewN n) lo hi A l := h
theorem VF.setCell (h : VF w lo hi A l) {p : Addr} (hp : p.block < lo ∨ hi ≤ p.block) (u : Value) : VF (w.setCell p u) lo hi A l := fun hl => by
 obtain ⟨b, off, rfl, h1, h2, h3⟩ := h hl
 exact ⟨b, off, rfl, h1, h2, h3.keep fun o => World.cell?_setCell_other w p ⟨b, o, none⟩ u (fun e => by subst e; simp only at hp; omega)⟩
end
theorem VS.below {w w' : World} {B : Nat} {A : Option Addr} {l : List V} (h : VS w B A l) (hb : Below B w w') : VS w' B A l := by
 intro hl
 obtain ⟨b, off, rfl, hbB, hr⟩ := h hl
 refine ⟨b, off, rfl, hbB, fun i v hv => ?_⟩
 obtain ⟨h0, h1, h2⟩ := hr i v hv
 exact ⟨(hb.cell (p := ⟨b, _, none⟩) hbB).trans h0, (hb.cell (p := ⟨b, _, none⟩) hbB).trans h1, (hb.cell (p := ⟨b, _, none⟩) hbB).trans h2⟩
theorem VS.more {w : World} {B B' : Nat} {A : Option Addr} {l : List V} (h : VS w B A l) (hB : B ≤ B') : VS w B' A l := by
 intro hl
 obtain ⟨b, off, rfl, hbB, hr⟩ := h hl
 exact ⟨b, off, rfl, by omega, hr⟩
theorem VS.nil {w : World} {B : Nat} {A : Option Addr} : VS w B A [] := fun h => absurd h (by simp)
theorem VS.take {w : World} {B : Nat} {A : Option Addr} {l : List V} (h : VS w B A l) (n : Nat) : VS w B A (l.take n) := by
 intro hl
 obtain ⟨b, off, rfl, hbB, hr⟩ := h (by rw [List.length_take] at hl; omega)
 refine ⟨b, off, rfl, hbB, fun i v hv => hr i v ?_⟩
 rw [List.getElem?_take] at hv
 split at hv
 ·exact hv
 ·cases hv
theorem add_mid (b o j : Nat) : (⟨b, o, none⟩ : Addr).add j = ⟨b, o + j, none⟩ := by unfold Addr.add; split <;> simp_all
theorem cells_at : ∀ (l : List V) (i j : Nat) (v : V), l[i]? = some v → j < 3 → (l.flatMap V.cells)[i * 3 + j]? = v.cells[j]? := by
 intro l
 induction l with
 | nil => intro i j v h; simp at h
 | cons x r ih =>
  intro i j v h hj
  cases i with
  | zero =>
   simp at h; subst h
   rw [List.flatMap_cons, List.getElem?_append_left (by rw [V.cells_length]; omega)]
   simp
  | succ i =>
   rw [List.flatMap_cons, List.getElem?_append_right (by rw [V.cells_length]; omega), V.cells_length]
   have e : (i + 1) * 3 + j - 3 = i * 3 + j := by omega
   rw [e]
   exact ih i j v (by simpa using h) hj
theorem cells_len (l : List V) : (l.flatMap V.cells).length = l.length * 3 := by
 induction l with
 | nil => rfl
 | cons x r ih => rw [List.flatMap_cons, List.length_append, ih, V.cells_length, List.length_cons]; omega
theorem cells_one (l : List V) : ∀ u ∈ l.flatMap V.cells, u.oneCell' = true := by
 intro u hu
 rw [List.mem_flatMap] at hu
 obtain ⟨v, _, hv⟩ := hu
 simp only [V.cells, List.mem_cons, List.not_mem_nil, or_false] at hv
 rcases hv with rfl | rfl | rfl <;> rfl
theorem VS.own {w : World} {base : Nat} {e : TypeId} {sv : Value} {n : Nat} {l : List V} (h : w.ownsRow base e 3 sv n (l.flatMap V.cells)) :
  ∃ A c, sv = .slice A l.length c ∧ l.length ≤ c ∧ c ≤ maxLen ∧ VF w base w.heap.size A l := by
 have hn : l.length = n := by have := h.1; rw [cells_len] at this; omega
 rcases h.2 with ⟨rfl, h0⟩ | ⟨g, cap, cur, rfl, hb, hg, hnc, hcm, hcs, htk⟩
 ·refine ⟨none, 0, ?_, by omega, Nat.zero_le _, fun hl => absurd hl (by omega)⟩
  rw [hn, h0]
 ·refine ⟨some ⟨g, 0, none⟩, cap, by rw [hn], by omega, hcm, fun _ => ⟨g, 0, rfl, hb, ?_, ?_⟩⟩
  ·exact (Array.getElem?_eq_some_iff.1 hg).1
  ·intro i v hv
   have hc := h.cells (g := g) rfl
   have key : ∀ j u, j < 3 → v.cells[j]? = some u → w.cell? ⟨g, 0 + i * 3 + j, none⟩ = some u := by
    intro j u hj hu
    have := hc (i * 3 + j) u (by rw [cells_at l i j v hv hj]; exact hu)
    rw [add_mid] at this
    rw [Nat.add_assoc]
    exact this
   exact ⟨key 0 _ (by omega) rfl, key 1 _ (by omega) rfl, key 2 _ (by omega) rfl⟩
theorem bcell {W w1 : World} {B : Nat} (hb : Below B W w1) : (∀ b o, b < B → w1.cell? ⟨b, o, none⟩ = W.cell? ⟨b, o, none⟩) ∧ (∀ b o, b < B → w1.frozen? ⟨b, o, none⟩ = W.frozen? ⟨b, o, none⟩) :=
 ⟨fun b o h => hb.cell (p := ⟨b, o, none⟩) h, fun b o h => hb.frozen (p := ⟨b, o, none⟩) h⟩
theorem below_drewN {B : Nat} {a w : World} (h : Below B a w) (n : Nat) : Below B a (w.drewN n) := ⟨h.os, h.tape, h.output, h.size, h.block⟩
section
variable {B B' : Nat} {a w w' : World}
theorem bwR : Below B w w := Below.refl B w
theorem bwD (h : Below B a w) : Below B a w.drew := h.drew
theorem bwN {n : Nat} (h : Below B a w) : Below B a (w.drewN n) := below_drewN h n
theorem bwS {p : Addr} {u : Value} (h : Below B a w) (hp : B ≤ p.block) : Below B a (w.setCell p u) := h.setCell hp u
theorem bwA {o : Obj} (h : Below B a w) (hB : B ≤ w.heap.size) : Below B a (w.alloc o) := h.alloc hB o
theorem bwT (h : Below B a w) (k : Below B' w w') (hB : B ≤ B') : Below B a w' := h.trans (k.mono hB)
theorem bl (h : Below B a w := by ((with_reducible repeat' (first | exact bwR | assumption | refine bwD ?_ | refine bwN ?_ | refine bwS ?_ ?_ | refine bwA ?_ ?_ | refine bwT ?_ (by assumption) ?_)) <;> first | (simp; done) | (simp; omega) | omega)) : Below B a w := h
end
theorem ba_size (s : List UInt8) : (⟨s.toArray⟩ : ByteArray).size = s.length := rfl
theorem ba_get (s : List UInt8) (j : Nat) (h : j < (⟨s.toArray⟩ : ByteArray).size) : (⟨s.toArray⟩ : ByteArray)[j]'h = s[j]'(by rw [ba_size] at h; exact h) := rfl
theorem ba_append (a b : List UInt8) : (⟨a.toArray⟩ : ByteArray) ++ ⟨b.toArray⟩ = ⟨(a ++ b).toArray⟩ := by
 apply ByteArray.ext
 simp [ByteArray.data_append]
theorem drop_cons (s : ByteArray) (k : Nat) (h : k < s.size) : s.data.toList.drop k = s[k] :: s.data.toList.drop (k + 1) := by
 rw [List.drop_eq_getElem_cons (by simpa using h)]; rfl
theorem own_below {w w' : World} {base : Nat} {e : TypeId} {size : Nat} {v : Value} {n : Nat} {xs : List Value} (h : w.ownsRow base e size v n xs) (hb : Below w.heap.size w w') : w'.ownsRow base e size v n xs := by
 refine ⟨h.1, ?_⟩
 rcases h.2 with h2 | ⟨g, cap, cur, hv, hg, hh, r⟩
 ·exact Or.inl h2
 ·exact Or.inr ⟨g, cap, cur, hv, hg, (hb.block g (Array.getElem?_eq_some_iff.1 hh).1).trans hh, r⟩
def Blk (w : World) (g : Nat) (t : TypeId) (cs : Array Value) : Prop := w.heap[g]? = some (.cells cs t (0, 0))
section
variable {w w' : World} {g : Nat} {t : TypeId} {cs : Array Value}
theorem Blk.lt (h : Blk w g t cs) : g < w.heap.size := by
 rcases Nat.lt_or_ge g w.heap.size with hlt | hge
 ·exact hlt
 ·unfold Blk at h; rw [Array.getElem?_eq_none hge] at h; cases h
theorem Blk.cell (h : Blk w g t cs) (i : Nat) : w.cell? ⟨g, i, none⟩ = cs[i]? := cell_of_row w g i cs t (0, 0) h
theorem Blk.frozen (h : Blk w g t cs) (i : Nat) : w.frozen? ⟨g, i, none⟩ = false := by
 unfold Blk at h
 simp [World.frozen?, h]
theorem Blk.new (w : World) (t : TypeId) (cs : Array Value) : Blk (w.alloc (.cells cs t)) w.heap.size t cs := heap_alloc_new w _
theorem Blk.drew (h : Blk w g t cs) : Blk w.drew g t cs := h
theorem Blk.drewN (h : Blk w g t cs) (n : Nat) : Blk (w.drewN n) g t cs := h
theorem Blk.alloc (h : Blk w g t cs) (o : Obj) : Blk (w.alloc o) g t cs := (Below.heap_alloc w o g h.lt).trans h
theorem Blk.set_ (h : Blk w g t cs) (i : Nat) (u : Value) : Blk (w.setCell ⟨g, i, none⟩ u) g t (cs.setIfInBounds i u) := by
 unfold Blk at h ⊢
 simp [World.setCell, Array.getElem?_modify, h]
theorem Blk.far (h : Blk w g t cs) {p : Addr} (hp : g ≠ p.block) (u : Value) : Blk (w.setCell p u) g t cs := (Below.heap_setCell w p u g hp).trans h
theorem Blk.below {B : Nat} (h : Blk w g t cs) (hb : Below B w w') (hg : g < B) : Blk w' g t cs := (hb.block g hg).trans h
theorem Blk.grown {row : Option Nat} (h : Blk w g t cs) (hb : w.grownBy w' row) (hg : some g ≠ row) : Blk w' g t cs := (hb.block g h.lt hg).trans h
theorem Blk.new' (w : World) (n : Nat) (t : TypeId) (cs : Array Value) (hn : w.heap.size = n) : Blk (w.alloc (.cells cs t)) n t cs := by subst hn; exact Blk.new w t cs
def Blk3 (w : World) (g : Nat) (t : TypeId) : Prop := ∃ x0 x1 x2, Blk w g t #[x0, x1, x2]
theorem Blk3.new' (w : World) (n : Nat) (t : TypeId) (x0 x1 x2 : Value) (hn : w.heap.size = n) : Blk3 (w.alloc (.cells #[x0, x1, x2] t)) n t := ⟨x0, x1, x2, Blk.new' w n t _ hn⟩
theorem Blk3.drew (h : Blk3 w g t) : Blk3 w.drew g t := h
theorem Blk3.drewN (h : Blk3 w g t) (n : Nat) : Blk3 (w.drewN n) g t := h
theorem Blk3.alloc (h : Blk3 w g t) (o : Obj) : Blk3 (w.alloc o) g t := by obtain ⟨x0, x1, x2, h⟩ := h; exact ⟨x0, x1, x2, h.alloc o⟩
theorem Blk3.far (h : Blk3 w g t) {p : Addr} (hp : g ≠ p.block) (u : Value) : Blk3 (w.setCell p u) g t := by obtain ⟨x0, x1, x2, h⟩ := h; exact ⟨x0, x1, x2, h.far hp u⟩
theorem Blk3.below {B : Nat} (h : Blk3 w g t) (hb : Below B w w') (hg : g < B) : Blk3 w' g t := by obtain ⟨x0, x1, x2, h⟩ := h; exact ⟨x0, x1, x2, h.below hb hg⟩
theorem Blk.set3 (h : Blk3 w g t) (y0 y1 y2 : Value) : Blk (((w.setCell ⟨g, 0, none⟩ y0).setCell ⟨g, 1, none⟩ y1).setCell ⟨g, 2, none⟩ y2) g t #[y0, y1, y2] := by
 obtain ⟨x0, x1, x2, h⟩ := h
 exact ((h.set_ 0 y0).set_ 1 y1).set_ 2 y2
theorem Blk.three {x0 x1 x2 : Value} (h : Blk w g t #[x0, x1, x2]) : (w.cell? ⟨g, 0, none⟩ = some x0 ∧ w.cell? ⟨g, 1, none⟩ = some x1 ∧ w.cell? ⟨g, 2, none⟩ = some x2) ∧ (w.frozen? ⟨g, 0, none⟩ = false ∧ w.frozen? ⟨g, 1, none⟩ = false ∧ w.frozen? ⟨g, 2, none⟩ = false) :=
 ⟨⟨h.cell 0, h.cell 1, h.cell 2⟩, h.frozen 0, h.frozen 1, h.frozen 2⟩
theorem Blk.two {x0 x1 : Value} (h : Blk w g t #[x0, x1]) : (w.cell? ⟨g, 0, none⟩ = some x0 ∧ w.cell? ⟨g, 1, none⟩ = some x1) ∧ (w.frozen? ⟨g, 0, none⟩ = false ∧ w.frozen? ⟨g, 1, none⟩ = false) :=
 ⟨⟨h.cell 0, h.cell 1⟩, h.frozen 0, h.frozen 1⟩
end
def Ret (v : Value) (w : World) (e : Ending) (w' : World) : Prop := e = .returned v ∧ Below w.heap.size w w'
def RetVS (l : List V) (w : World) (e : Ending) (w' : World) : Prop :=
 ∃ A c, e = .returned (.slice A l.length c) ∧ l.length ≤ c ∧ c ≤ maxLen ∧ VF w' w.heap.size w'.heap.size A l ∧ Below w.heap.size w w'
end Go.Proofs.YtchilcchogcibaaGreatDoor
