/- Rows that a call gathers: a slice of its own whose things are slices of values. Nothing of the program stands here. -/
import Derived.Test.YtdhjogmkhbpcgaaGreatRelW
import Derived.Test.YtdhjogmkhbpcgaaGreatAppend
namespace Go.Proofs.YtdhjogmkhbpcgaaGreat
open Go.RowKit

/-- A row: where it lies, and what it reads as. -/
structure Rc where
  s : Sl
  r : List V
def Rc.cell (q : Rc) : Value := .slice q.s.a q.r.length q.s.c
theorem rc_one (l : List Rc) : ∀ u ∈ l.map Rc.cell, u.oneCell' = true := by
  intro u hu
  rw [List.mem_map] at hu
  obtain ⟨x, _, rfl⟩ := hu
  rfl
/-- The slice value sv is the call's own, from block lo on, and reads as the rows l. -/
def RowsOwn (w : World) (e : TypeId) (lo : Nat) (sv : Value) (l : List (List V)) : Prop :=
  ∃ recs : List Rc, recs.map Rc.r = l ∧ w.ownsRow lo e 1 sv l.length (recs.map Rc.cell) ∧ ∀ q ∈ recs, WQ q.r q.s.a (fun b => lo ≤ b ∧ b < w.heap.size ∧ some b ≠ sv.ownBlock) w
section
variable {w w' w1 : World} {e : TypeId} {lo : Nat} {sv : Value} {l : List (List V)}
theorem RowsOwn.nil : RowsOwn w e lo (.slice none 0 0) [] := ⟨[], rfl, World.ownsRow_nil _ _ _ _, by simp⟩
theorem RowsOwn.below (h : RowsOwn w e lo sv l) (hb : Below w.heap.size w w') : RowsOwn w' e lo sv l := by
  obtain ⟨recs, h1, h2, h3⟩ := h
  exact ⟨recs, h1, own_below h2 hb, fun q hq => (h3 q hq).keep fun b hb' => ⟨⟨hb'.1, Nat.lt_of_lt_of_le hb'.2.1 hb.size, hb'.2.2⟩, fun o => hb.cell (p := ⟨b, o, none⟩) hb'.2.1⟩⟩
theorem RowsOwn.step {recs : List Rc} {n g cap : Nat} {r : List V} {A' : Option Addr} {c' : Nat} (h1 : recs.map Rc.r = l) (h3 : ∀ q ∈ recs, WQ q.r q.s.a (fun b => lo ≤ b ∧ b < w.heap.size ∧ some b ≠ sv.ownBlock) w)
    (hr : WQ r A' (fun b => lo ≤ b ∧ b < w.heap.size ∧ some b ≠ sv.ownBlock) w) (hn : n = l.length) (ho : w'.ownsRow lo e 1 (.slice (some ⟨g, 0, none⟩) (n + 1) cap) (n + 1) (recs.map Rc.cell ++ [.slice A' r.length c']))
    (hb : Below w.heap.size w w1) (hg : w1.grownBy w' sv.ownBlock) (hor : sv.ownBlock = some g ∨ g = w1.heap.size) : RowsOwn w' e lo (.slice (some ⟨g, 0, none⟩) (n + 1) cap) (l ++ [r]) := by
  have hk : ∀ b, (lo ≤ b ∧ b < w.heap.size ∧ some b ≠ sv.ownBlock) → (lo ≤ b ∧ b < w'.heap.size ∧ some b ≠ (Value.slice (some ⟨g, 0, none⟩) (n + 1) cap).ownBlock) ∧ ∀ o, w'.cell? ⟨b, o, none⟩ = w.cell? ⟨b, o, none⟩ := fun b ⟨h1, h2, h3⟩ => by
    have hz1 := hb.size
    have hz2 := hg.size
    refine ⟨⟨h1, by omega, fun e1 => ?_⟩, fun o => (World.cell?_of_block (a := ⟨b, o, none⟩) (hg.block b (by omega) h3)).trans (hb.cell (p := ⟨b, o, none⟩) h2)⟩
    rcases hor with h | h
    · exact h3 (e1.trans h.symm)
    · have : b = g := Option.some.inj e1
      omega
  subst hn
  refine ⟨recs ++ [⟨⟨A', c'⟩, r⟩], by rw [List.map_append, h1]; rfl, ?_, fun q hq => ?_⟩
  · rw [List.map_append, List.length_append]
    exact ho
  · rcases List.mem_append.1 hq with hq | hq
    · exact (h3 q hq).keep hk
    · obtain rfl : q = ⟨⟨A', c'⟩, r⟩ := by simpa using hq
      exact hr.keep hk
theorem RowsOwn.out (h : RowsOwn w e lo sv l) : ∃ A c, sv = .slice A l.length c ∧ l.length ≤ c ∧ c ≤ maxLen ∧ RQ l A (fun b => lo ≤ b ∧ b < w.heap.size) w := by
  obtain ⟨recs, h1, h2, h3⟩ := h
  have hn : recs.length = l.length := by rw [← h1, List.length_map]
  rcases h2.2 with ⟨rfl, h0⟩ | ⟨g, cap, cur, rfl, hb, hg, hnc, hcm, hcs, htk⟩
  · rw [h0]
    exact ⟨none, 0, rfl, by omega, Nat.zero_le _, fun hl => absurd hl (by omega)⟩
  · refine ⟨some ⟨g, 0, none⟩, cap, rfl, by omega, hcm, fun _ => ⟨g, 0, rfl, ⟨hb, (Array.getElem?_eq_some_iff.1 hg).1⟩, fun i r hr => ?_⟩⟩
    rw [← h1, List.getElem?_map, Option.map_eq_some_iff] at hr
    obtain ⟨q, hq, rfl⟩ := hr
    have hc := h2.cells (g := g) rfl i q.cell (by rw [List.getElem?_map, hq]; rfl)
    rw [add_mid] at hc
    exact ⟨q.s.a, q.s.c, hc, (h3 q (List.mem_of_getElem? hq)).keep fun b hb' => ⟨⟨hb'.1, hb'.2.1⟩, fun _ => rfl⟩⟩
theorem RowsOwn.lt (h : RowsOwn w e lo sv l) : ∀ k, sv.ownBlock = some k → lo ≤ k ∧ k < w.heap.size := by
  obtain ⟨recs, _, h2, _⟩ := h
  exact h2.lt
end

end Go.Proofs.YtdhjogmkhbpcgaaGreat
