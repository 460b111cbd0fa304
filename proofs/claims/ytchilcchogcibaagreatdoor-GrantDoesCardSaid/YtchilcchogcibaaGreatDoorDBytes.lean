/- Plain words for memory; Several reads of a drawn region taken first, one behind the other, by a list of their numbers; and words that stand for a walk's common tactics (short texts); value.May answers mayB, whatever value it is handed; so does the document's own May; Rows of octets that a call makes itself, and their texts. -/
import Derived.WalkKit
import Derived.WalkSpells
import Derived.WalkLawsBesides
import Derived.Lib.OthersKept
import Derived.Lib.TrimU
import Derived.Deep.LoopGhost
import Derived.Lib.Hide
import Derived.Deep.Light
import Derived.Deep.QuietTactic
import Derived.BigQuiet
import Derived.Deep.Draws
import Derived.Deep.OwnRows
import Derived.Maps.AppendAt
import Derived.Deep.AppendLies
import Derived.ProofKit
import Derived.Deep.Slices
import Derived.Deep.Fields
import Derived.Deep.RegionHeld3
import Derived.Test.YtchilcchogcibaaGreatDoorRows
import Derived.Lib.AppendStr
import Derived.Laws.BytesArg
set_option maxHeartbeats 400000
namespace Go.Proofs.YtchilcchogcibaaGreatDoor
open Go.RowKit
structure V where
 k : Int
 i : Int
 s : List UInt8
def V.zero : V := ⟨0, 0, []⟩
def V.cells (v : V) : List Value := [.int .i64 v.k, .int .i64 v.i, .string ⟨v.s.toArray⟩]
theorem V.cells_length (v : V) : v.cells.length = 3 := rfl
def V.wf (v : V) : Prop := (-9223372036854775808 ≤ v.k ∧ v.k ≤ 9223372036854775807) ∧ (-9223372036854775808 ≤ v.i ∧ v.i ≤ 9223372036854775807) ∧ v.s.length ≤ 140737488351232
def VRow (w : World) (b off : Nat) (l : List V) : Prop :=
 ∀ i v, l[i]? = some v → w.cell? ⟨b, off + i * 3, none⟩ = some (.int .i64 v.k) ∧ w.cell? ⟨b, off + i * 3 + 1, none⟩ = some (.int .i64 v.i) ∧ w.cell? ⟨b, off + i * 3 + 2, none⟩ = some (.string ⟨v.s.toArray⟩)
def VS (w : World) (B : Nat) (A : Option Addr) (l : List V) : Prop :=
 0 < l.length → ∃ b off, A = some ⟨b, off, none⟩ ∧ b < B ∧ VRow w b off l
theorem VS.at_ {w : World} {B : Nat} {A : Option Addr} {l : List V} (h : VS w B A l) {j : Nat} (hj : j < l.length) :
  ∃ b off v, A = some ⟨b, off, none⟩ ∧ b < B ∧ l[j]? = some v ∧ w.cell? ⟨b, off + j * 3, none⟩ = some (.int .i64 v.k) ∧ w.cell? ⟨b, off + j * 3 + 1, none⟩ = some (.int .i64 v.i) ∧ w.cell? ⟨b, off + j * 3 + 2, none⟩ = some (.string ⟨v.s.toArray⟩) := by
 obtain ⟨b, off, rfl, hb, hr⟩ := h (by omega)
 have hv : l[j]? = some l[j] := List.getElem?_eq_getElem hj
 obtain ⟨h0, h1, h2⟩ := hr j _ hv
 exact ⟨b, off, l[j], rfl, hb, hv, h0, h1, h2⟩
def VF (w : World) (lo hi : Nat) (A : Option Addr) (l : List V) : Prop :=
 0 < l.length → ∃ b off, A = some ⟨b, off, none⟩ ∧ lo ≤ b ∧ b < hi ∧ VRow w b off l
theorem VRow.keep {w w' : World} {b off : Nat} {l : List V} (h : VRow w b off l) (hk : ∀ o, w'.cell? ⟨b, o, none⟩ = w.cell? ⟨b, o, none⟩) : VRow w' b off l := by
 intro i v hv
 obtain ⟨h0, h1, h2⟩ := h i v hv
 exact ⟨(hk _).trans h0, (hk _).trans h1, (hk _).trans h2⟩
section
variable {w w' : World} {lo hi : Nat} {A : Option Addr} {l : List V}
theorem VF.vs (h : VF w lo hi A l) {B : Nat} (hB : hi ≤ B) : VS w B A l := fun hl => by
 obtain ⟨b, off, rfl, _, h2, h3⟩ := h hl
 exact ⟨b, off, rfl, by omega, h3⟩
theorem VF.below (h : VF w lo hi A l) {B : Nat} (hb : Below B w w') (hB : hi ≤ B) : VF w' lo hi A l := fun hl => by
 obtain ⟨b, off, rfl, h1, h2, h3⟩ := h hl
 exact ⟨b, off, rfl, h1, h2, h3.keep fun o => hb.cell (p := ⟨b, o, none⟩) (by show b < B; omega)⟩
theorem VF.alloc (h : VF w lo hi A l) (hB : hi ≤ w.heap.size) (o : Obj) : VF (w.alloc o) lo hi A l := h.below ((Below.refl w.heap.size w).alloc (Nat.le_refl _) o) hB
theorem VF.drew (h : VF w lo hi A l) : VF w.drew lo hi A l := h
theorem VF.drewN (h : VF w lo hi A l) (n : Nat) : VF (w.drewN n) lo hi A l := h
theorem VF.setCell (h : VF w lo hi A l) {p : Addr} (hp : p.block < lo ∨ hi ≤ p.block) (u : Value) : VF (w.setCell p u) lo hi A l := fun hl => by
 obtain ⟨b, off, rfl, h1, h2, h3⟩ := h hl
 exact ⟨b, off, rfl, h1, h2, h3.keep fun o => World.cell?_setCell_other w p ⟨b, o, none⟩ u (fun e => by subst e; simp only at hp; omega)⟩
end
theorem VS.below {w w' : World} {B : Nat} {A : Option Addr} {l : List V} (h : VS w B A l) (hb : Below B w w') : VS w' B A l := by
 intro hl
 obtain ⟨b, off, rfl, hbB, hr⟩ := h hl
 refine ⟨b, off, rfl, hbB, fun i v hv => ?_⟩
 obtain ⟨h0, h1, h2⟩ := hr i v hv
 exact ⟨(hb.cell (p := ⟨b, _, none⟩) hbB).trans h0, (hb.cell (p := ⟨b, _, none⟩) hbB).trans h1, (hb.cell (p := ⟨b, _, none⟩) hbB).trans h2⟩
theorem VS.more {w : World} {B B' : Nat} {A : Option Addr} {l : List V} (h : VS w B A l) (hB : B ≤ B') : VS w B' A l := by
 intro hl
 obtain ⟨b, off, rfl, hbB, hr⟩ := h hl
 exact ⟨b, off, rfl, by omega, hr⟩
theorem VS.nil {w : World} {B : Nat} {A : Option Addr} : VS w B A [] := fun h => absurd h (by simp)
theorem VS.take {w : World} {B : Nat} {A : Option Addr} {l : List V} (h : VS w B A l) (n : Nat) : VS w B A (l.take n) := by
 intro hl
 obtain ⟨b, off, rfl, hbB, hr⟩ := h (by rw [List.length_take] at hl; omega)
 refine ⟨b, off, rfl, hbB, fun i v hv => hr i v ?_⟩
 rw [List.getElem?_take] at hv
 split at hv
 ·exact hv
 ·cases hv
theorem add_mid (b o j : Nat) : (⟨b, o, none⟩ : Addr).add j = ⟨b, o + j, none⟩ := by unfold Addr.add; split <;> simp_all
theorem cells_at : ∀ (l : List V) (i j : Nat) (v : V), l[i]? = some v → j < 3 → (l.flatMap V.cells)[i * 3 + j]? = v.cells[j]? := by
 intro l
 induction l with
 | nil => intro i j v h; simp at h
 | cons x r ih =>
  intro i j v h hj
  cases i with
  | zero =>
   simp at h; subst h
   rw [List.flatMap_cons, List.getElem?_append_left (by rw [V.cells_length]; omega)]
   simp
  | succ i =>
   rw [List.flatMap_cons, List.getElem?_append_right (by rw [V.cells_length]; omega), V.cells_length]
   have e : (i + 1) * 3 + j - 3 = i * 3 + j := by omega
   rw [e]
   exact ih i j v (by simpa using h) hj
theorem cells_len (l : List V) : (l.flatMap V.cells).length = l.length * 3 := by
 induction l with
 | nil => rfl
 | cons x r ih => rw [List.flatMap_cons, List.length_append, ih, V.cells_length, List.length_cons]; omega
theorem cells_one (l : List V) : ∀ u ∈ l.flatMap V.cells, u.oneCell' = true := by
 intro u hu
 rw [List.mem_flatMap] at hu
 obtain ⟨v, _, hv⟩ := hu
 simp only [V.cells, List.mem_cons, List.not_mem_nil, or_false] at hv
 rcases hv with rfl | rfl | rfl <;> rfl
theorem VS.own {w : World} {base : Nat} {e : TypeId} {sv : Value} {n : Nat} {l : List V} (h : w.ownsRow base e 3 sv n (l.flatMap V.cells)) :
  ∃ A c, sv = .slice A l.length c ∧ l.length ≤ c ∧ c ≤ maxLen ∧ VF w base w.heap.size A l := by
 have hn : l.length = n := by have := h.1; rw [cells_len] at this; omega
 rcases h.2 with ⟨rfl, h0⟩ | ⟨g, cap, cur, rfl, hb, hg, hnc, hcm, hcs, htk⟩
 ·refine ⟨none, 0, ?_, by omega, Nat.zero_le _, fun hl => absurd hl (by omega)⟩
  rw [hn, h0]
 ·refine ⟨some ⟨g, 0, none⟩, cap, by rw [hn], by omega, hcm, fun _ => ⟨g, 0, rfl, hb, ?_, ?_⟩⟩
  ·exact (Array.getElem?_eq_some_iff.1 hg).1
  ·intro i v hv
   have hc := h.cells (g := g) rfl
   have key : ∀ j u, j < 3 → v.cells[j]? = some u → w.cell? ⟨g, 0 + i * 3 + j, none⟩ = some u := by
    intro j u hj hu
    have := hc (i * 3 + j) u (by rw [cells_at l i j v hv hj]; exact hu)
    rw [add_mid] at this
    rw [Nat.add_assoc]
    exact this
   exact ⟨key 0 _ (by omega) rfl, key 1 _ (by omega) rfl, key 2 _ (by omega) rfl⟩
theorem bcell {W w1 : World} {B : Nat} (hb : Below B W w1) : (∀ b o, b < B → w1.cell? ⟨b, o, none⟩ = W.cell? ⟨b, o, none⟩) ∧ (∀ b o, b < B → w1.frozen? ⟨b, o, none⟩ = W.frozen? ⟨b, o, none⟩) :=
 ⟨fun b o h => hb.cell (p := ⟨b, o, none⟩) h, fun b o h => hb.frozen (p := ⟨b, o, none⟩) h⟩
theorem below_drewN {B : Nat} {a w : World} (h : Below B a w) (n : Nat) : Below B a (w.drewN n) := ⟨h.os, h.tape, h.output, h.size, h.block⟩
section
variable {B B' : Nat} {a w w' : World}
theorem bwR : Below B w w := Below.refl B w
theorem bwD (h : Below B a w) : Below B a w.drew := h.drew
theorem bwN {n : Nat} (h : Below B a w) : Below B a (w.drewN n) := below_drewN h n
theorem bwS {p : Addr} {u : Value} (h : Below B a w) (hp : B ≤ p.block) : Below B a (w.setCell p u) := h.setCell hp u
theorem bwA {o : Obj} (h : Below B a w) (hB : B ≤ w.heap.size) : Below B a (w.alloc o) := h.alloc hB o
theorem bwT (h : Below B a w) (k : Below B' w w') (hB : B ≤ B') : Below B a w' := h.trans (k.mono hB)
theorem bl (h : Below B a w := by ((with_reducible repeat' (first | exact bwR | assumption | refine bwD ?_ | refine bwN ?_ | refine bwS ?_ ?_ | refine bwA ?_ ?_ | refine bwT ?_ (by assumption) ?_)) <;> first | (simp; done) | (simp; omega) | omega)) : Below B a w := h
end
theorem ba_size (s : List UInt8) : (⟨s.toArray⟩ : ByteArray).size = s.length := rfl
theorem ba_get (s : List UInt8) (j : Nat) (h : j < (⟨s.toArray⟩ : ByteArray).size) : (⟨s.toArray⟩ : ByteArray)[j]'h = s[j]'(by rw [ba_size] at h; exact h) := rfl
theorem ba_append (a b : List UInt8) : (⟨a.toArray⟩ : ByteArray) ++ ⟨b.toArray⟩ = ⟨(a ++ b).toArray⟩ := by
 apply ByteArray.ext
 simp [ByteArray.data_append]
theorem drop_cons (s : ByteArray) (k : Nat) (h : k < s.size) : s.data.toList.drop k = s[k] :: s.data.toList.drop (k + 1) := by
 rw [List.drop_eq_getElem_cons (by simpa using h)]; rfl
theorem own_below {w w' : World} {base : Nat} {e : TypeId} {size : Nat} {v : Value} {n : Nat} {xs : List Value} (h : w.ownsRow base e size v n xs) (hb : Below w.heap.size w w') : w'.ownsRow base e size v n xs := by
 refine ⟨h.1, ?_⟩
 rcases h.2 with h2 | ⟨g, cap, cur, hv, hg, hh, r⟩
 ·exact Or.inl h2
 ·exact Or.inr ⟨g, cap, cur, hv, hg, (hb.block g (Array.getElem?_eq_some_iff.1 hh).1).trans hh, r⟩
def Blk (w : World) (g : Nat) (t : TypeId) (cs : Array Value) : Prop := w.heap[g]? = some (.cells cs t (0, 0))
section
variable {w w' : World} {g : Nat} {t : TypeId} {cs : Array Value}
theorem Blk.lt (h : Blk w g t cs) : g < w.heap.size := by
 rcases Nat.lt_or_ge g w.heap.size with hlt | hge
 ·exact hlt
 ·unfold Blk at h; rw [Array.getElem?_eq_none hge] at h; cases h
theorem Blk.cell (h : Blk w g t cs) (i : Nat) : w.cell? ⟨g, i, none⟩ = cs[i]? := cell_of_row w g i cs t (0, 0) h
theorem Blk.frozen (h : Blk w g t cs) (i : Nat) : w.frozen? ⟨g, i, none⟩ = false := by
 unfold Blk at h
 simp [World.frozen?, h]
theorem Blk.new (w : World) (t : TypeId) (cs : Array Value) : Blk (w.alloc (.cells cs t)) w.heap.size t cs := heap_alloc_new w _
theorem Blk.drew (h : Blk w g t cs) : Blk w.drew g t cs := h
theorem Blk.drewN (h : Blk w g t cs) (n : Nat) : Blk (w.drewN n) g t cs := h
theorem Blk.alloc (h : Blk w g t cs) (o : Obj) : Blk (w.alloc o) g t cs := (Below.heap_alloc w o g h.lt).trans h
theorem Blk.set_ (h : Blk w g t cs) (i : Nat) (u : Value) : Blk (w.setCell ⟨g, i, none⟩ u) g t (cs.setIfInBounds i u) := by
 unfold Blk at h ⊢
 simp [World.setCell, Array.getElem?_modify, h]
theorem Blk.far (h : Blk w g t cs) {p : Addr} (hp : g ≠ p.block) (u : Value) : Blk (w.setCell p u) g t cs := (Below.heap_setCell w p u g hp).trans h
theorem Blk.below {B : Nat} (h : Blk w g t cs) (hb : Below B w w') (hg : g < B) : Blk w' g t cs := (hb.block g hg).trans h
theorem Blk.grown {row : Option Nat} (h : Blk w g t cs) (hb : w.grownBy w' row) (hg : some g ≠ row) : Blk w' g t cs := (hb.block g h.lt hg).trans h
theorem Blk.new' (w : World) (n : Nat) (t : TypeId) (cs : Array Value) (hn : w.heap.size = n) : Blk (w.alloc (.cells cs t)) n t cs := by subst hn; exact Blk.new w t cs
def Blk3 (w : World) (g : Nat) (t : TypeId) : Prop := ∃ x0 x1 x2, Blk w g t #[x0, x1, x2]
theorem Blk3.new' (w : World) (n : Nat) (t : TypeId) (x0 x1 x2 : Value) (hn : w.heap.size = n) : Blk3 (w.alloc (.cells #[x0, x1, x2] t)) n t := ⟨x0, x1, x2, Blk.new' w n t _ hn⟩
theorem Blk3.drew (h : Blk3 w g t) : Blk3 w.drew g t := h
theorem Blk3.drewN (h : Blk3 w g t) (n : Nat) : Blk3 (w.drewN n) g t := h
theorem Blk3.alloc (h : Blk3 w g t) (o : Obj) : Blk3 (w.alloc o) g t := by obtain ⟨x0, x1, x2, h⟩ := h; exact ⟨x0, x1, x2, h.alloc o⟩
theorem Blk3.far (h : Blk3 w g t) {p : Addr} (hp : g ≠ p.block) (u : Value) : Blk3 (w.setCell p u) g t := by obtain ⟨x0, x1, x2, h⟩ := h; exact ⟨x0, x1, x2, h.far hp u⟩
theorem Blk3.below {B : Nat} (h : Blk3 w g t) (hb : Below B w w') (hg : g < B) : Blk3 w' g t := by obtain ⟨x0, x1, x2, h⟩ := h; exact ⟨x0, x1, x2, h.below hb hg⟩
theorem Blk.three {x0 x1 x2 : Value} (h : Blk w g t #[x0, x1, x2]) : (w.cell? ⟨g, 0, none⟩ = some x0 ∧ w.cell? ⟨g, 1, none⟩ = some x1 ∧ w.cell? ⟨g, 2, none⟩ = some x2) ∧ (w.frozen? ⟨g, 0, none⟩ = false ∧ w.frozen? ⟨g, 1, none⟩ = false ∧ w.frozen? ⟨g, 2, none⟩ = false) :=
 ⟨⟨h.cell 0, h.cell 1, h.cell 2⟩, h.frozen 0, h.frozen 1, h.frozen 2⟩
theorem Blk.two {x0 x1 : Value} (h : Blk w g t #[x0, x1]) : (w.cell? ⟨g, 0, none⟩ = some x0 ∧ w.cell? ⟨g, 1, none⟩ = some x1) ∧ (w.frozen? ⟨g, 0, none⟩ = false ∧ w.frozen? ⟨g, 1, none⟩ = false) :=
 ⟨⟨h.cell 0, h.cell 1⟩, h.frozen 0, h.frozen 1⟩
end
def Ret (v : Value) (w : World) (e : Ending) (w' : World) : Prop := e = .returned v ∧ Below w.heap.size w w'
def RetVS (l : List V) (w : World) (e : Ending) (w' : World) : Prop :=
 ∃ A c, e = .returned (.slice A l.length c) ∧ l.length ≤ c ∧ c ≤ maxLen ∧ VF w' w.heap.size w'.heap.size A l ∧ Below w.heap.size w w'
end Go.Proofs.YtchilcchogcibaaGreatDoor
namespace Go.Proofs.YtchilcchogcibaaGreatDoor
open Go Go.RowKit
theorem ap {X Z : Prop} (k : Z) (h : X = Z := by ((try simp only [Act.put, List.getElem_toArray, List.getElem_cons_zero, List.getElem_cons_succ, List.setIfInBounds_toArray, List.set_cons_zero, List.set_cons_succ]); first | done | with_reducible rfl)) : X := h ▸ k
section
variable {P : Program} {ops : Array Oper} {Q : Exit → Act → World → Prop} {md : Region.Mode} {S : World → Prop} {fuel : Nat} {listed : Array Bool} {a : Act} {w : World}
def wpAnyT (_is : List Nat) (P : Program) (md : Region.Mode) (ops : Array Oper) (Q : Exit → Act → World → Prop) (S : World → Prop) (fuel : Nat) (listed : Array Bool) (a : Act) (w : World) : Prop := wpAnyH P md ops Q S fuel listed a w
theorem tS (is : List Nat) (h : wpAnyT is P md ops Q S fuel listed a w) : wpAnyH P md ops Q S fuel listed a w := h
theorem tN (h : wpAnyH P md ops Q S fuel listed a w) : wpAnyT [] P md ops Q S fuel listed a w := h
theorem tC {i : Nat} {is : List Nat} {oi : Oper} {v : Value}
  (h : wpAnyT is P md ops Q S fuel (listed.setIfInBounds i true) (a.put oi.dst v) w)
  (hi : ops[i]? = some oi := by rfl) (hs : Region.noSelect ops = true := by kernel_rfl) (hf : Region.free md ops listed i = true := by kernel_rfl) (hr : (Region.ready md ops listed).contains i = true := by kernel_rfl)
  (hQ : ∀ c a w, Q (.panic c) (a.put oi.dst v) w → Q (.panic c) a w := by exact fun _ _ _ h => h)
  (hy : YieldsIf P ops S oi v a := by (refine Or.inl ⟨by rfl, ?_⟩; intro wq hSw; (try dsimp only at hSw); go_simp; first | done | with_reducible rfl | rw [if_neg (by omega)]))
  (hS : S w := by assumption) : wpAnyT (i :: is) P md ops Q S (fuel + 1) listed a w :=
 wpAnyH_take hi hs hf hr hQ hy hS h
theorem tX {i : Nat} {is : List Nat} {oi : Oper}
  (h : wpAnyT is P md ops Q S fuel (listed.setIfInBounds i true) (a.put oi.dst undef) w)
  (hi : ops[i]? = some oi := by rfl) (hs : Region.noSelect ops = true := by kernel_rfl) (hf : Region.free md ops listed i = true := by kernel_rfl) (hr : (Region.ready md ops listed).contains i = true := by kernel_rfl)
  (hQ : ∀ c a w, Q (.panic c) (a.put oi.dst undef) w → Q (.panic c) a w := by exact fun _ _ _ h => h)
  (hy : YieldsIf P ops S oi undef a := by exact Or.inr ⟨by rfl, rfl⟩)
  (hS : S w := by assumption) : wpAnyT (i :: is) P md ops Q S (fuel + 1) listed a w :=
 wpAnyH_take hi hs hf hr hQ hy hS h
theorem rgn {id : Nat} {w0 : World} (HS : Hid (∀ Z : World, Below w0.heap.size w0 Z → S Z)) (h : S w.drew → wpAnyH P .any ops Q S ops.size (Array.replicate ops.size false) a w.drew)
  (hb : Below w0.heap.size w0 w.drew := by exact bl) (hm : P.follows .mixedOrders = true := by kernel_rfl) : (Code.region id ops true).wp P Q a w :=
 wp_region_held_drew hm (HS.out _ hb) h
theorem rdy (i : Nat) {o : Oper} (h : ∀ K' : Act → World → Prop, Shut (∀ a w, S w → (S w → wpAnyH P md ops Q S fuel (listed.setIfInBounds i true) a w) → K' a w) → if Region.wanted o (yielded ops a.tmps) = true then Oper.wp P o a w K' Q else K' (a.put o.dst undef) w)
  (hr : Region.ready md ops listed = [i] := by kernel_rfl) (ho : ops[i]? = some o := by rfl) : wpAnyH P md ops Q S (fuel + 1) listed a w :=
 wpAnyH_ready hr (by simp) (AllReadyH.cons ho h AllReadyH.nil)
end
end Go.Proofs.YtchilcchogcibaaGreatDoor
namespace Go.Proofs.YtchilcchogcibaaGreatDoor
open Go.RowKit
def oddB (r : Int) : Bool := decide (r < 32) || decide (126 < r)
def oddByte (b : UInt8) : Bool := oddB (b.toNat : Int)
def oddFrom : List UInt8 → Nat → Int
 | [], _ => -1
 | b :: r, n => if oddByte b then (n : Int) else oddFrom r (n + 1)
theorem oddFrom_neg (l : List UInt8) : ∀ n, decide (oddFrom l n < 0) = !(l.any oddByte) := by
 induction l with
 | nil => intro n; simp [oddFrom]
 | cons b r ih =>
  intro n
  by_cases h : oddByte b = true
  ·simp [oddFrom, h]
  ·simp [oddFrom, h, ih]
theorem decode_good (s : ByteArray) (pos : Nat) (h : pos < s.size) (hb : oddByte s[pos] = false) : Utf8.decode s pos = (s[pos].toNat, 1) := by
 have e : s.get! pos = s[pos] := by
  show s.data[pos]! = s.data[pos]
  exact getElem!_pos s.data pos h
 simp only [oddByte, oddB, Bool.or_eq_false_iff, decide_eq_false_iff_not] at hb
 rw [Lib.decode_at, e]
 unfold Lib.decodeN
 rw [if_pos (by omega)]
theorem decode_odd (s : ByteArray) (pos : Nat) (h : pos < s.size) (hb : oddByte s[pos] = true) : oddB ((Utf8.decode s pos).1 : Int) = true := by
 have e : s.get! pos = s[pos] := by
  show s.data[pos]! = s.data[pos]
  exact getElem!_pos s.data pos h
 simp only [oddByte, oddB, Bool.or_eq_true, decide_eq_true_eq] at hb
 rw [Lib.decode_at, e]
 unfold Lib.decodeN
 have := UInt8.toNat_lt s[pos]
 simp only [oddB, Bool.or_eq_true, decide_eq_true_eq]
 repeat' split
 all_goals (simp only; try omega)
 all_goals (try simp_all; try omega)
theorem may1_any (r : Int) (w : World) :
  Calls Tryz.prog 136 #[.int .i32 r] w fun e w' => e = .returned (.bool (oddB r)) ∧ w = w' := by
 by_cases h1 : r < 32
 ·go_in
  go_wp2
  go_ret
  exact ⟨by simp [oddB, h1], rfl⟩
 ·by_cases h2 : 126 < r
  ·go_in
   go_wp2
   go_ret
   exact ⟨by simp [oddB, h2], rfl⟩
  ·go_in
   go_wp2
   go_ret
   exact ⟨by simp [oddB, h1, h2], rfl⟩
theorem indexFunc_any (s : ByteArray) (w : World) :
  Calls Tryz.prog 191 #[.string s, .func (.func 136) #[] #[], .bool true] w fun e w' => e = .returned (.int .i64 (oddFrom s.data.toList 0)) ∧ Below w.heap.size w w' := by
 go_in
 go_wp2
 go_loopg [] s.size (fun gf wx => ∃ pos : Nat, wx.heap[w.heap.size]? = some (.stringIter s pos) ∧ Below w.heap.size w wx ∧ Hid (oddFrom (s.data.toList.drop pos) pos = oddFrom s.data.toList 0) ∧ gf + pos = s.size)
 case atStart => exact ⟨0, World.iter_heap w s 0, (Below.refl _ w).alloc (Nat.le_refl _) _, rfl, by omega⟩
 case round =>
  obtain ⟨pos, hit, hbw, hleft, hfu⟩ := hrel
  by_cases hps : pos < s.size
  ·obtain ⟨g', rfl⟩ : ∃ g', gk = g' + 1 := ⟨gk - 1, by omega⟩
   have hnx : ∀ ty, (Instr.next (.pointer (some ⟨w.heap.size, 0, none⟩)) true ty).run Tryz.prog wr = _ := fun ty => Lib.run_next_any_at wr w.heap.size s pos ty hit hps
   by_cases hb : oddByte s[pos] = true
   ·have hd := decode_odd s pos hps hb
    obtain ⟨R, hR⟩ : ∃ R, (Utf8.decode s pos).1 = R := ⟨_, rfl⟩
    obtain ⟨K, hK⟩ : ∃ K, (Utf8.decode s pos).2 = K := ⟨_, rfl⟩
    rw [hR, hK] at hnx
    rw [hR] at hd
    have hbw2 := Lib.below_iterAt hbw (k := w.heap.size) (Nat.le_refl _) s (pos + K)
    have hl : oddFrom s.data.toList 0 = pos := by
     rw [← hleft.out, drop_cons s pos hps]; simp [oddFrom, hb]
    have HL := Lib.hid hl
    clear hl hleft hb hfu
    go_wp2_with (go_at_call 136; refine (may1_any _ _).mono ?_; rintro e w' ⟨rfl, rfl⟩)
    go_ret
    exact ⟨by rw [HL.out]; rfl, hbw2⟩
   ·have hb' : oddByte s[pos] = false := by simpa using hb
    have hd := decode_good s pos hps hb'
    rw [hd] at hnx
    have hbw2 := Lib.below_iterAt hbw (k := w.heap.size) (Nat.le_refl _) s (pos + 1)
    have hit2 := Lib.iterAt_heap wr w.heap.size s pos (pos + 1) hit
    have hl : oddFrom (s.data.toList.drop (pos + 1)) (pos + 1) = oddFrom s.data.toList 0 := by
     rw [← hleft.out, drop_cons s pos hps]; simp [oddFrom, hb']
    have HL := Lib.hid hl
    have HF := Lib.hid hfu
    have ho : oddB (s[pos].toNat : Int) = false := hb'
    clear hl hleft hb hfu hb' hd
    go_wp2_with (go_at_call 136; refine (may1_any _ _).mono ?_; rintro e w' ⟨rfl, rfl⟩)
    go_roundg g'
    case measure => omega
    case rel => exact ⟨pos + 1, hit2, hbw2, HL, by have := HF.out; omega⟩
  ·have hnx : ∀ ty, (Instr.next (.pointer (some ⟨w.heap.size, 0, none⟩)) true ty).run Tryz.prog wr = _ := fun ty => Lib.run_next_end_at wr w.heap.size s pos ty hit hps
   have hl : oddFrom s.data.toList 0 = -1 := by
     rw [← hleft.out, List.drop_of_length_le (by simp; omega)]; simp [oddFrom]
   have HL := Lib.hid hl
   clear hl hleft hfu
   go_wp2
   go_ret
   exact ⟨by rw [HL.out]; rfl, hbw⟩
theorem IndexFunc_any (s : List UInt8) (w : World) :
  Calls Tryz.prog 137 #[.string ⟨s.toArray⟩, .func (.func 136) #[] #[]] w fun e w' => e = .returned (.int .i64 (oddFrom s 0)) ∧ Below w.heap.size w w' := by
 go_in
 go_wp2_with (go_at_call 191; refine (indexFunc_any _ _).mono ?_; rintro e w' ⟨rfl, hb⟩)
 go_ret
 exact ⟨rfl, hb⟩
def mayB (k i : Int) (s : List UInt8) : Bool :=
 if k = 0 then decide (i = 0) && s.isEmpty
 else if k = 1 then s.isEmpty
 else if k = 2 then decide (i = 0) && decide (s.length ≤ 40) && !(s.any oddByte)
 else if k = 3 then (decide (i = 0) || decide (i = 1)) && s.isEmpty
 else false
theorem may_any (k i : Int) (s : List UInt8) (w : World) :
  Calls Tryz.prog 77 #[.agg #[.int .i64 k, .int .i64 i, .string ⟨s.toArray⟩]] w fun e w' => e = .returned (.bool (mayB k i s)) ∧ Below w.heap.size w w' := by
 go_in
 go_wp2_with (go_at_call 137; refine (IndexFunc_any _ _).mono ?_; rintro e w' ⟨rfl, hb⟩)
 all_goals go_ret
 all_goals refine ⟨?_, ?_⟩
 all_goals first
  | exact (Below.refl _ _).alloc (Nat.le_refl _) _
  | exact ((Below.refl _ _).alloc (Nat.le_refl _) _).trans (hb.mono (by simp))
  | skip
 all_goals go_light
 all_goals (simp_all [mayB, oddFrom_neg])
 all_goals omega
def bcs (l : List UInt8) : List Value := l.map fun b => Value.int .u8 (b.toNat : Int)
theorem bcs_length (a : List UInt8) : (bcs a).length = a.length := by simp [bcs]
theorem strOfNums_nat (l : List UInt8) : strOfNums (l.map fun b => (b.toNat : Int)) = ⟨l.toArray⟩ := by
 unfold strOfNums
 congr 2
 rw [List.map_map]
 conv => rhs; rw [← List.map_id l]
 apply List.map_congr_left
 intro b _
 simp
theorem own_text {P : Program} {w : World} {base : Nat} {src e dst : TypeId} {v : Value} {n : Nat} {l : List UInt8} (hs : P.underlying src = some (.slice e)) (he : P.underlying e = some (.int .u8)) (hd : P.underlying dst = some .string)
  (h : w.ownsRow base e 1 v n (bcs l)) : (convert src dst v).run P w = .ok (.string ⟨l.toArray⟩) w := by
 have hn : l.length = n := by have := h.1; rw [bcs_length] at this; omega
 rcases h.2 with ⟨rfl, h0⟩ | ⟨g, cap, cur, rfl, _, _, _, _, _, _⟩
 ·have : l = [] := List.eq_nil_of_length_eq_zero (by omega)
  subst this
  exact run_convert_bytes_nil w src e hs he 0 0 dst hd
 ·have hc := h.cells (g := g) rfl
  have := run_convert_bytes_arg (P := P) w src e hs he g 0 n cap (l.map fun b => (b.toNat : Int)) (by simpa using hn) (fun i hi => by
   have h1 := hc i (.int .u8 (l[i].toNat : Int)) (by simp [bcs, List.getElem?_eq_getElem (show i < l.length by omega)])
   rw [add_mid] at h1
   rw [h1]
   simp [List.getElem?_eq_getElem (show i < l.length by omega)]) dst hd
  rw [strOfNums_nat] at this
  exact this
theorem own_new (w : World) (base : Nat) (e : TypeId) (b : Int) (u : UInt8) (hu : (u.toNat : Int) = b) (hb : base ≤ w.heap.size) :
  (w.alloc (.cells #[.int .u8 b] e)).ownsRow base e 1 (.slice (some ⟨w.heap.size, 0, none⟩) 1 1) 1 (bcs [u]) := by
 subst hu
 refine ⟨by simp [bcs], .inr ⟨w.heap.size, 1, #[.int .u8 (u.toNat : Int)], rfl, hb, heap_alloc_new w _, Nat.le_refl _, by simp [maxLen], by simp, by simp [bcs]⟩⟩
end Go.Proofs.YtchilcchogcibaaGreatDoor
