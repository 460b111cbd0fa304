/- Plain words for two tracks that are marked side by side: memory apart from two blocks. Nothing of the program stands here, but the type's number. -/
import Derived.Test.YtkeeekifejholaaAwake14
import Derived.Test.YtkeeekifejholaaOpenT
import Derived.Test.YtkeeekifejholaaTrackBits
import Derived.Test.YtkeeekifejholaaSame14
namespace Go.Proofs.Ytkeeekifejholaa
open Go.RowKit

/-- A slice of values that lies in memory, and not in the blocks n and n + 1. -/
def VX (w : World) (n : Nat) (A : Option Addr) (l : List V) : Prop := 0 < l.length → ∃ b off, A = some ⟨b, off, none⟩ ∧ b < w.heap.size ∧ (b < n ∨ n + 2 ≤ b) ∧ VRow w b off l
def BX (w : World) (n : Nat) (A : Option Addr) (l : List UInt8) : Prop := 0 < l.length → ∃ b off, A = some ⟨b, off, none⟩ ∧ b < w.heap.size ∧ (b < n ∨ n + 2 ≤ b) ∧ BRow w b off l
section
variable {w w' : World} {n : Nat} {A : Option Addr}
theorem VX.vs {l : List V} (h : VX w n A l) : VS w w.heap.size A l := fun hl => by
  obtain ⟨b, off, rfl, h1, _, h3⟩ := h hl
  exact ⟨b, off, rfl, h1, h3⟩
theorem BX.bs {l : List UInt8} (h : BX w n A l) : BS w w.heap.size A l := fun hl => by
  obtain ⟨b, off, rfl, h1, _, h3⟩ := h hl
  exact ⟨b, off, rfl, h1, h3⟩
theorem VX.below {l : List V} (h : VX w n A l) (hb : Below w.heap.size w w') : VX w' n A l := fun hl => by
  obtain ⟨b, off, rfl, h1, h2, h3⟩ := h hl
  exact ⟨b, off, rfl, Nat.lt_of_lt_of_le h1 hb.size, h2, h3.keep fun o => hb.cell (p := ⟨b, o, none⟩) h1⟩
theorem BX.below {l : List UInt8} (h : BX w n A l) (hb : Below w.heap.size w w') : BX w' n A l := fun hl => by
  obtain ⟨b, off, rfl, h1, h2, h3⟩ := h hl
  exact ⟨b, off, rfl, Nat.lt_of_lt_of_le h1 hb.size, h2, fun i c hc => (hb.cell (p := ⟨b, _, none⟩) h1).trans (h3 i c hc)⟩
theorem VX.set {l : List V} (h : VX w n A l) {p : Addr} (hp : n ≤ p.block ∧ p.block < n + 2) (u : Value) : VX (w.setCell p u) n A l := fun hl => by
  obtain ⟨b, off, rfl, h1, h2, h3⟩ := h hl
  exact ⟨b, off, rfl, by simpa using h1, h2, h3.keep fun o => World.cell?_setCell_other w p ⟨b, o, none⟩ u (fun e => by subst e; simp only at hp; omega)⟩
theorem BX.set {l : List UInt8} (h : BX w n A l) {p : Addr} (hp : n ≤ p.block ∧ p.block < n + 2) (u : Value) : BX (w.setCell p u) n A l := fun hl => by
  obtain ⟨b, off, rfl, h1, h2, h3⟩ := h hl
  exact ⟨b, off, rfl, by simpa using h1, h2, fun i c hc => (World.cell?_setCell_other w p ⟨b, off + i, none⟩ u (fun e => by subst e; simp only at hp; omega)).trans (h3 i c hc)⟩
theorem VX.low {l : List V} (h : VS w n A l) (hn : n ≤ w.heap.size) : VX w n A l := fun hl => by
  obtain ⟨b, off, rfl, h1, h3⟩ := h hl
  exact ⟨b, off, rfl, by omega, .inl h1, h3⟩
theorem BX.low {l : List UInt8} (h : BS w n A l) (hn : n ≤ w.heap.size) : BX w n A l := fun hl => by
  obtain ⟨b, off, rfl, h1, h3⟩ := h hl
  exact ⟨b, off, rfl, by omega, .inl h1, h3⟩
theorem VX.high {l : List V} {lo hi : Nat} (h : VF w lo hi A l) (h1 : n + 2 ≤ lo) (h2 : hi ≤ w.heap.size) : VX w n A l := fun hl => by
  obtain ⟨b, off, rfl, a1, a2, a3⟩ := h hl
  exact ⟨b, off, rfl, by omega, .inr (by omega), a3⟩
theorem BX.high {l : List UInt8} {lo hi : Nat} (h : BF w lo hi A l) (h1 : n + 2 ≤ lo) (h2 : hi ≤ w.heap.size) : BX w n A l := fun hl => by
  obtain ⟨b, off, rfl, a1, a2, a3⟩ := h hl
  exact ⟨b, off, rfl, by omega, .inr (by omega), a3⟩
end

/-- A track lies in block g, its slices apart from the blocks n and n + 1. -/
def TX (n g : Nat) (u : List V) (t : List UInt8) (w : World) : Prop := ∃ A c B d, Blk w g 47 #[.slice A u.length c, .slice B t.length d] ∧ VX w n A u ∧ BX w n B t
section
variable {n g : Nat} {u : List V} {t : List UInt8} {w w' : World}
theorem TX.below (h : TX n g u t w) (hb : Below w.heap.size w w') : TX n g u t w' := by
  obtain ⟨A, c, B, d, h1, h2, h3⟩ := h
  exact ⟨A, c, B, d, h1.below hb h1.lt, h2.below hb, h3.below hb⟩
theorem TX.drew (h : TX n g u t w) : TX n g u t w.drew := h
theorem TX.far (h : TX n g u t w) {p : Addr} (hg : g ≠ p.block) (hp : n ≤ p.block ∧ p.block < n + 2) (x : Value) : TX n g u t (w.setCell p x) := by
  obtain ⟨A, c, B, d, h1, h2, h3⟩ := h
  exact ⟨A, c, B, d, h1.far hg x, h2.set hp x, h3.set hp x⟩
theorem TX.put {x0 x1 : Value} {A B : Option Addr} {c d : Nat} (hk : Blk w g 47 #[x0, x1]) (hv : VX w n A u) (hs : BX w n B t) (hg : n ≤ g ∧ g < n + 2) :
    TX n g u t ((w.setCell ⟨g, 0, none⟩ (.slice A u.length c)).setCell ⟨g, 1, none⟩ (.slice B t.length d)) :=
  ⟨A, c, B, d, hk.set2 _ _, (hv.set hg _).set hg _, (hs.set hg _).set hg _⟩
theorem TX.blk (h : TX n g u t w) : ∃ x0 x1, Blk w g 47 #[x0, x1] := by
  obtain ⟨A, c, B, d, h1, _⟩ := h
  exact ⟨_, _, h1⟩
theorem TX.of (A B : Option Addr) (c d : Nat) (hk : Blk w g 47 #[.slice A u.length c, .slice B t.length d]) (hv : VX w n A u) (hs : BX w n B t) : TX n g u t w := ⟨A, c, B, d, hk, hv, hs⟩
end

theorem tx_new {w : World} {A B : Option Addr} {c d lo n : Nat} {u : List V} {t : List UInt8} (hv : VF w lo w.heap.size A u) (hs : BF w lo w.heap.size B t) (hn : n + 2 ≤ lo) : TX n w.heap.size u t (w.alloc (.cells #[.slice A u.length c, .slice B t.length d] 47)) := by
  have hb : Below w.heap.size w (w.alloc (.cells #[.slice A u.length c, .slice B t.length d] 47)) := by ((repeat' (first | with_reducible exact Below.refl _ _ | with_reducible assumption | with_reducible refine Below.drew ?_ | with_reducible refine below_drewN ?_ _ | with_reducible refine Below.setCell ?_ ?_ _ | with_reducible refine Below.alloc ?_ ?_ _ | with_reducible refine Below.trans ?_ (Below.mono (by assumption) ?_))) <;> (first | (simp; done) | (simp; omega) | omega))
  exact ⟨A, c, B, d, Blk.new _ _ _, VX.high (hv.below hb (Nat.le_refl _)) hn hb.size, BX.high (hs.below hb (Nat.le_refl _)) hn hb.size⟩
theorem tx_set {w : World} {g : Nat} {x0 x1 : Value} {A B : Option Addr} {c d lo n : Nat} {u : List V} {t : List UInt8} (hk : Blk w g 47 #[x0, x1]) (hv : VF w lo w.heap.size A u) (hs : BF w lo w.heap.size B t) (hg : g < lo) (hn : n + 2 ≤ lo) :
    TX n g u t ((w.setCell ⟨g, 0, none⟩ (.slice A u.length c)).setCell ⟨g, 1, none⟩ (.slice B t.length d)) :=
  ⟨A, c, B, d, hk.set2 _ _, VX.high ((hv.setCell (.inl hg) _).setCell (.inl hg) _) hn (by simp), BX.high ((hs.setCell (.inl hg) _).setCell (.inl hg) _) hn (by simp)⟩

end Go.Proofs.Ytkeeekifejholaa
