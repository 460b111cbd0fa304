/- How arguments of the laws are opened: a slice of tokens. -/
import Derived.Test.YtelkcfkmejcjaaaDoorOpenV
import Derived.Test.YtelkcfkmejcjaaaDoorTok
namespace Go.Proofs.YtelkcfkmejcjaaaDoor
open Go.ChangeShapes Go.WideShapes Go.ChangeAt Go.RowKit Go.Deep Go.Joins

theorem open_toks_t {H : Type} {enc : TypeId × Value → H} {W : World} {fuel : Nat} {cs : List Value} {x : DataW H × List MemPlace}
    (hf : DataW.trod enc Tryd.prog W 0 (fun _ => true) true fuel 43 cs = some x) :
    ∃ (A : Option Addr) (l : List Tok) (c : Nat), cs = [.slice A l.length c] ∧ l.length ≤ c ∧ c ≤ maxLen ∧ TkS W W.heap.size A l ∧ ∀ x ∈ l, x.s.length ≤ maxLen := by
  rcases open_slice_fields Tryd.underlying43 Tryd.underlying56 (by kernel_rfl) (by kernel_rfl) hf with ⟨hcs, _⟩ | ⟨a, len0, cap0, m, D, Pl, hcs, _, hl, hm, hmm, _, hi⟩
  · exact ⟨none, [], 0, hcs, Nat.le_refl _, Nat.zero_le _, TkS.nil, fun x hx => by simp at hx⟩
  · simp only [if_true] at hmm
    have key : ∀ i, i < len0 → ∃ x : Tok, x.s.length ≤ maxLen ∧ W.cell? (a.add (i * 2 + 0)) = some (.int .i64 x.k) ∧ W.cell? (a.add (i * 2 + 1)) = some (.string ⟨x.s.toArray⟩) := by
      intro i hilt
      obtain ⟨ys, n, _, _, _, hfield⟩ := hi i (by omega)
      obtain ⟨c0, y0, hc0, _, t0⟩ := hfield 0 _ rfl
      obtain ⟨c1, y1, hc1, _, t1⟩ := hfield 1 _ rfl
      obtain ⟨k, e0, _, w0⟩ := DataW.trod_int Tryd.underlying3 t0
      obtain ⟨s, e1, _, w1⟩ := DataW.trod_string Tryd.underlying9 t1
      simp at e0 e1
      subst e0 e1
      refine ⟨⟨k, s.data.toList⟩, ?_, hc0, hc1⟩
      have hsz : s.data.toList.length = s.size := by rw [Array.length_toList]; rfl
      show s.data.toList.length ≤ maxLen
      omega
    have key2 : ∃ f : Nat → Tok, ∀ i, i < len0 → (f i).s.length ≤ maxLen ∧ W.cell? (a.add (i * 2 + 0)) = some (.int .i64 (f i).k) ∧ W.cell? (a.add (i * 2 + 1)) = some (.string ⟨(f i).s.toArray⟩) := by
      refine ⟨fun i => if h : i < len0 then (key i h).choose else ⟨0, []⟩, fun i h => ?_⟩
      simp only [h, dite_true]
      exact (key i h).choose_spec
    obtain ⟨f, hfk⟩ := key2
    refine ⟨some a, (List.range len0).map f, cap0, by simpa using hcs, by simpa using hl, hm, ?_, ?_⟩
    · intro hpos
      have h0 := (hfk 0 (by simpa using hpos)).2.1
      have hspot : a.spot = none := by simpa [Addr.add] using World.cell?_spot h0
      obtain ⟨b, off, spot⟩ := a
      simp only at hspot
      subst hspot
      have hb : b < W.heap.size := by
        have := World.block_lt_of_cell? W _ h0
        simpa [add_mid] using this
      refine ⟨b, off, rfl, hb, fun i x hx => ?_⟩
      rw [List.getElem?_map] at hx
      by_cases hil : i < len0
      · rw [List.getElem?_range hil] at hx
        simp at hx
        subst hx
        have hk := (hfk i hil).2
        rw [add_mid, add_mid] at hk
        exact hk
      · rw [List.getElem?_eq_none (by simpa using hil)] at hx
        simp at hx
    · intro x hx
      simp only [List.mem_map, List.mem_range] at hx
      obtain ⟨i, hi', rfl⟩ := hx
      exact (hfk i hi').1

set_option maxRecDepth 100000 in
theorem open_toks {H : Type} {enc : TypeId × Value → H} {W : World} {base : Nat} {v : Value} {d : DataW H} {p : List MemPlace}
    (hv : Value.okWide Tryd.prog W .any base 43 v) (h : DataW.Trod enc Tryd.prog W 0 (fun _ => true) true 43 v d p) :
    ∃ (A : Option Addr) (l : List Tok) (c : Nat), v = .slice A l.length c ∧ l.length ≤ c ∧ c ≤ maxLen ∧ TkS W W.heap.size A l ∧ ∀ x ∈ l, x.s.length ≤ maxLen := by
  obtain ⟨a0, len0, cap0, rfl⟩ := okWide_slice Tryd.underlying43 hv
  obtain ⟨fuel, hf⟩ := h
  obtain ⟨A, l, c, hcs, h1, h2, h3, h4⟩ := open_toks_t hf
  exact ⟨A, l, c, by simpa [Value.cells] using hcs, h1, h2, h3, h4⟩

end Go.Proofs.YtelkcfkmejcjaaaDoor
