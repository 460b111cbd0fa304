/- Plain words for tokens: two cells each, slices of them. Nothing of the program stands here. -/
import Derived.Test.YtdhjogmkhbpcgaaGreatBase
namespace Go.Proofs.YtdhjogmkhbpcgaaGreat
open Go.RowKit

structure Tok where
  k : Int
  s : List UInt8

def Tok.cells (t : Tok) : List Value := [.int .i64 t.k, .string ⟨t.s.toArray⟩]
theorem Tok.cells_length (t : Tok) : t.cells.length = 2 := rfl
def TkRow (w : World) (b off : Nat) (l : List Tok) : Prop := ∀ i v, l[i]? = some v → w.cell? ⟨b, off + i * 2, none⟩ = some (.int .i64 v.k) ∧ w.cell? ⟨b, off + i * 2 + 1, none⟩ = some (.string ⟨v.s.toArray⟩)
/-- The slice value '.slice A l.length c' reads as the tokens l, and lies below block B. -/
def TkS (w : World) (B : Nat) (A : Option Addr) (l : List Tok) : Prop := 0 < l.length → ∃ b off, A = some ⟨b, off, none⟩ ∧ b < B ∧ TkRow w b off l
/-- As TkS, with bounds on the block. -/
def TkF (w : World) (lo hi : Nat) (A : Option Addr) (l : List Tok) : Prop := 0 < l.length → ∃ b off, A = some ⟨b, off, none⟩ ∧ lo ≤ b ∧ b < hi ∧ TkRow w b off l
section
variable {w w' : World} {A : Option Addr} {l : List Tok}
theorem TkS.at_ {B : Nat} (h : TkS w B A l) {j : Nat} (hj : j < l.length) :
    ∃ b off v, A = some ⟨b, off, none⟩ ∧ b < B ∧ l[j]? = some v ∧ w.cell? ⟨b, off + j * 2, none⟩ = some (.int .i64 v.k) ∧ w.cell? ⟨b, off + j * 2 + 1, none⟩ = some (.string ⟨v.s.toArray⟩) := by
  obtain ⟨b, off, rfl, hb, hr⟩ := h (by omega)
  have hv : l[j]? = some l[j] := List.getElem?_eq_getElem hj
  obtain ⟨h0, h1⟩ := hr j _ hv
  exact ⟨b, off, l[j], rfl, hb, hv, h0, h1⟩
theorem TkRow.keep {b off : Nat} (h : TkRow w b off l) (hk : ∀ o, w'.cell? ⟨b, o, none⟩ = w.cell? ⟨b, o, none⟩) : TkRow w' b off l := by
  intro i v hv
  obtain ⟨h0, h1⟩ := h i v hv
  exact ⟨(hk _).trans h0, (hk _).trans h1⟩
theorem TkS.below {B : Nat} (h : TkS w B A l) (hb : Below B w w') : TkS w' B A l := fun hl => by
  obtain ⟨b, off, rfl, hbB, hr⟩ := h hl
  exact ⟨b, off, rfl, hbB, hr.keep fun o => hb.cell (p := ⟨b, o, none⟩) hbB⟩
theorem TkS.more {B B' : Nat} (h : TkS w B A l) (hB : B ≤ B') : TkS w B' A l := fun hl => by
  obtain ⟨b, off, rfl, hbB, hr⟩ := h hl
  exact ⟨b, off, rfl, by omega, hr⟩
theorem TkS.nil {B : Nat} : TkS w B A [] := fun h => absurd h (by simp)
theorem TkF.nil {lo hi : Nat} : TkF w lo hi A [] := fun h => absurd h (by simp)
theorem TkF.vs {lo hi B : Nat} (h : TkF w lo hi A l) (hB : hi ≤ B) : TkS w B A l := fun hl => by
  obtain ⟨b, off, rfl, _, h2, h3⟩ := h hl
  exact ⟨b, off, rfl, by omega, h3⟩
theorem TkF.below {lo hi B : Nat} (h : TkF w lo hi A l) (hb : Below B w w') (hB : hi ≤ B) : TkF w' lo hi A l := fun hl => by
  obtain ⟨b, off, rfl, h1, h2, h3⟩ := h hl
  exact ⟨b, off, rfl, h1, h2, h3.keep fun o => hb.cell (p := ⟨b, o, none⟩) (by show b < B; omega)⟩
end

theorem tk_at : ∀ (l : List Tok) (i j : Nat) (v : Tok), l[i]? = some v → j < 2 → (l.flatMap Tok.cells)[i * 2 + j]? = v.cells[j]? := by
  intro l
  induction l with
  | nil => intro i j v h; simp at h
  | cons x r ih =>
    intro i j v h hj
    cases i with
    | zero =>
      simp at h; subst h
      rw [List.flatMap_cons, List.getElem?_append_left (by rw [Tok.cells_length]; omega)]
      simp
    | succ i =>
      rw [List.flatMap_cons, List.getElem?_append_right (by rw [Tok.cells_length]; omega), Tok.cells_length]
      have e : (i + 1) * 2 + j - 2 = i * 2 + j := by omega
      rw [e]
      exact ih i j v (by simpa using h) hj
theorem tk_len (l : List Tok) : (l.flatMap Tok.cells).length = l.length * 2 := by
  induction l with
  | nil => rfl
  | cons x r ih => rw [List.flatMap_cons, List.length_append, ih, Tok.cells_length, List.length_cons]; omega
theorem tk_one (l : List Tok) : ∀ u ∈ l.flatMap Tok.cells, u.oneCell' = true := by
  intro u hu
  rw [List.mem_flatMap] at hu
  obtain ⟨v, _, hv⟩ := hu
  simp only [Tok.cells, List.mem_cons, List.not_mem_nil, or_false] at hv
  rcases hv with rfl | rfl <;> rfl
theorem TkS.own {w : World} {base : Nat} {e : TypeId} {sv : Value} {n : Nat} {l : List Tok} (h : w.ownsRow base e 2 sv n (l.flatMap Tok.cells)) :
    ∃ A c, sv = .slice A l.length c ∧ l.length ≤ c ∧ c ≤ maxLen ∧ TkF w base w.heap.size A l := by
  have hn : l.length = n := by have := h.1; rw [tk_len] at this; omega
  rcases h.2 with ⟨rfl, h0⟩ | ⟨g, cap, cur, rfl, hb, hg, hnc, hcm, hcs, htk⟩
  · refine ⟨none, 0, ?_, by omega, Nat.zero_le _, fun hl => absurd hl (by omega)⟩
    rw [hn, h0]
  · refine ⟨some ⟨g, 0, none⟩, cap, by rw [hn], by omega, hcm, fun _ => ⟨g, 0, rfl, hb, ?_, ?_⟩⟩
    · exact (Array.getElem?_eq_some_iff.1 hg).1
    · intro i v hv
      have hc := h.cells (g := g) rfl
      have key : ∀ j u, j < 2 → v.cells[j]? = some u → w.cell? ⟨g, 0 + i * 2 + j, none⟩ = some u := by
        intro j u hj hu
        have := hc (i * 2 + j) u (by rw [tk_at l i j v hv hj]; exact hu)
        rw [add_mid] at this
        rw [Nat.add_assoc]
        exact this
      exact ⟨key 0 _ (by omega) rfl, key 1 _ (by omega) rfl⟩
theorem tk_block {w : World} {g : Nat} {e : TypeId} {l : List Tok} (h : Blk w g e (l.flatMap Tok.cells).toArray) : TkS w w.heap.size (some ⟨g, 0, none⟩) l := by
  intro _
  refine ⟨g, 0, rfl, h.lt, fun i v hv => ?_⟩
  have key : ∀ j u, j < 2 → v.cells[j]? = some u → w.cell? ⟨g, 0 + i * 2 + j, none⟩ = some u := by
    intro j u hj hu
    rw [h.cell, List.getElem?_toArray, Nat.zero_add, tk_at l i j v hv hj]
    exact hu
  exact ⟨key 0 _ (by omega) rfl, key 1 _ (by omega) rfl⟩
/-- What a call leaves that answers tokens, in memory of its own, and an error. -/
def RetTk (l : List Tok) (n : Int) (w : World) (e : Ending) (w' : World) : Prop :=
  ∃ A c, e = .returned (.tuple #[.slice A l.length c, .int .i64 n]) ∧ l.length ≤ c ∧ c ≤ maxLen ∧ TkF w' w.heap.size w'.heap.size A l ∧ Below w.heap.size w w'

end Go.Proofs.YtdhjogmkhbpcgaaGreat
