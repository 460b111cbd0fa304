/- Plain words for slices of numbers. Nothing of the program stands here. -/
import Derived.Test.YtdhjogmkhbpcgaaGreatBase
namespace Go.Proofs.YtdhjogmkhbpcgaaGreat
open Go.RowKit

/-- The slice value '.slice A l.length c' reads as the numbers l, and lies below block B. -/
def IS (w : World) (B : Nat) (A : Option Addr) (l : List Int) : Prop := 0 < l.length → ∃ b off, A = some ⟨b, off, none⟩ ∧ b < B ∧ ∀ i x, l[i]? = some x → w.cell? ⟨b, off + i, none⟩ = some (.int .i64 x)
/-- As IS, with bounds on the block. -/
def IF (w : World) (lo hi : Nat) (A : Option Addr) (l : List Int) : Prop := 0 < l.length → ∃ b off, A = some ⟨b, off, none⟩ ∧ lo ≤ b ∧ b < hi ∧ ∀ i x, l[i]? = some x → w.cell? ⟨b, off + i, none⟩ = some (.int .i64 x)
theorem IF.s {w : World} {lo hi : Nat} {A : Option Addr} {l : List Int} (h : IF w lo hi A l) {B : Nat} (hB : hi ≤ B) : IS w B A l := fun hl => by
  obtain ⟨b, off, rfl, _, h2, h3⟩ := h hl
  exact ⟨b, off, rfl, by omega, h3⟩
theorem IF.keep {w w' : World} {lo hi lo' hi' : Nat} {A : Option Addr} {l : List Int} (h : IF w lo hi A l) (hk : ∀ b, lo ≤ b → b < hi → (lo' ≤ b ∧ b < hi') ∧ ∀ o, w'.cell? ⟨b, o, none⟩ = w.cell? ⟨b, o, none⟩) : IF w' lo' hi' A l := fun hl => by
  obtain ⟨b, off, rfl, h1, h2, h3⟩ := h hl
  exact ⟨b, off, rfl, (hk b h1 h2).1.1, (hk b h1 h2).1.2, fun i x hx => ((hk b h1 h2).2 _).trans (h3 i x hx)⟩
theorem IS.below {w w' : World} {B : Nat} {A : Option Addr} {l : List Int} (h : IS w B A l) (hb : Below B w w') : IS w' B A l := fun hl => by
  obtain ⟨b, off, rfl, hbB, hr⟩ := h hl
  exact ⟨b, off, rfl, hbB, fun i x hx => (hb.cell (p := ⟨b, off + i, none⟩) hbB).trans (hr i x hx)⟩
theorem IS.more {w : World} {B B' : Nat} {A : Option Addr} {l : List Int} (h : IS w B A l) (hB : B ≤ B') : IS w B' A l := fun hl => by
  obtain ⟨b, off, rfl, hbB, hr⟩ := h hl
  exact ⟨b, off, rfl, by omega, hr⟩
theorem IS.nil {w : World} {B : Nat} {A : Option Addr} : IS w B A [] := fun h => absurd h (by simp)
theorem IS.at_ {w : World} {B : Nat} {A : Option Addr} {l : List Int} (h : IS w B A l) {j : Nat} (hj : j < l.length) :
    ∃ b off x, A = some ⟨b, off, none⟩ ∧ b < B ∧ l[j]? = some x ∧ w.cell? ⟨b, off + j, none⟩ = some (.int .i64 x) := by
  obtain ⟨b, off, rfl, hb, hr⟩ := h (by omega)
  exact ⟨b, off, l[j], rfl, hb, List.getElem?_eq_getElem hj, hr j _ (List.getElem?_eq_getElem hj)⟩
theorem int_one (l : List Int) : ∀ u ∈ l.map (fun x => (.int .i64 x : Value)), u.oneCell' = true := by
  intro u hu
  rw [List.mem_map] at hu
  obtain ⟨x, _, rfl⟩ := hu
  rfl
theorem IF.own {w : World} {base : Nat} {e : TypeId} {sv : Value} {n : Nat} {l : List Int} (h : w.ownsRow base e 1 sv n (l.map fun x => (.int .i64 x : Value))) :
    ∃ A c, sv = .slice A l.length c ∧ l.length ≤ c ∧ c ≤ maxLen ∧ IF w base w.heap.size A l := by
  have hn : l.length = n := by have := h.1; rw [List.length_map] at this; omega
  rcases h.2 with ⟨rfl, h0⟩ | ⟨g, cap, cur, rfl, hb, hg, hnc, hcm, hcs, htk⟩
  · refine ⟨none, 0, ?_, by omega, Nat.zero_le _, fun hl => absurd hl (by omega)⟩
    rw [hn, h0]
  · refine ⟨some ⟨g, 0, none⟩, cap, by rw [hn], by omega, hcm, fun _ => ⟨g, 0, rfl, hb, (Array.getElem?_eq_some_iff.1 hg).1, fun i x hx => ?_⟩⟩
    have hc := h.cells (g := g) rfl i (.int .i64 x) (by rw [List.getElem?_map, hx]; rfl)
    rw [add_mid] at hc
    exact hc

/-- The first place, from n on, where a thing is of a kind; -1: there is none. -/
def firstP {α : Type} (p : α → Bool) : List α → Nat → Int
  | [], _ => -1
  | x :: r, n => if p x then (n : Int) else firstP p r (n + 1)
theorem firstP_any {α : Type} (p : α → Bool) : ∀ (l : List α) (n : Nat), decide (0 ≤ firstP p l n) = l.any p
  | [], _ => by simp [firstP]
  | x :: r, n => by
    unfold firstP
    cases hp : p x
    · simp only [Bool.false_eq_true, if_false, List.any_cons, hp, Bool.false_or]
      exact firstP_any p r (n + 1)
    · simp [hp]
theorem firstP_cons {α : Type} (p : α → Bool) (x : α) (r : List α) (n : Nat) : firstP p (x :: r) n = if p x then (n : Int) else firstP p r (n + 1) := rfl
theorem firstP_le {α : Type} (p : α → Bool) : ∀ (l : List α) (n : Nat), firstP p l n < n + l.length ∨ firstP p l n = -1
  | [], _ => Or.inr rfl
  | x :: r, n => by
    unfold firstP
    split
    · left; simp only [List.length_cons]; omega
    · rcases firstP_le p r (n + 1) with h | h
      · left; simp only [List.length_cons]; omega
      · right; exact h

end Go.Proofs.YtdhjogmkhbpcgaaGreat
