/- How arguments of the laws are opened: an expression (a tree), a slice of columns. How arguments of the laws are opened: a slice of values. -/
import Derived.Test.YtdhjogmkhbpcgaaGreatOpenV
import Derived.Test.YtdhjogmkhbpcgaaGreatEx
namespace Go.Proofs.YtdhjogmkhbpcgaaGreat
open Go.ChangeShapes Go.WideShapes Go.ChangeAt Go.RowKit Go.Deep Go.Joins

theorem six_of {α : Type} {cs : List α} (h : cs.length = 6) : ∃ a b c d e f, cs = [a, b, c, d, e, f] := by
  match cs, h with
  | [a, b, c, d, e, f], _ => exact ⟨a, b, c, d, e, f, rfl⟩

theorem cellsE : Tryz.prog.cellsOf 29 = 6 := by kernel_rfl
theorem cells1s : Tryz.prog.cellsOf 9 = 1 := by kernel_rfl
theorem cells1l : Tryz.prog.cellsOf 27 = 1 := by kernel_rfl
theorem cells3v : Tryz.prog.cellsOf 26 = 3 := by kernel_rfl
theorem str_len {s : ByteArray} (h : s.size ≤ maxLen) : s.data.toList.length ≤ maxLen := by
  have hsz : s.data.toList.length = s.size := by rw [Array.length_toList]; rfl
  omega

set_option maxRecDepth 100000 in
theorem open_ex_both {H : Type} {enc : TypeId × Value → H} {W : World} : ∀ fuel : Nat,
    (∀ (cs : List Value) (x : DataW H × List MemPlace), DataW.trod enc Tryz.prog W 0 (fun _ => true) true fuel 29 cs = some x →
      ∃ (e : Ex) (A : Option Addr) (c : Nat), cs = e.cells A c ∧ e.fit maxLen ∧ e.l.length ≤ c ∧ c ≤ maxLen ∧ ExS maxLen fuel W W.heap.size A e.l) ∧
    (∀ (cs : List Value) (x : DataW H × List MemPlace), DataW.trod enc Tryz.prog W 0 (fun _ => true) true fuel 27 cs = some x →
      ∃ (A : Option Addr) (l : List Ex) (c : Nat), cs = [.slice A l.length c] ∧ l.length ≤ c ∧ c ≤ maxLen ∧ ExS maxLen fuel W W.heap.size A l)
  | 0 => ⟨fun cs x h => by simp [DataW.trod] at h, fun cs x h => by simp [DataW.trod] at h⟩
  | n + 1 => by
    obtain ⟨ih1, ih2⟩ := open_ex_both (enc := enc) (W := W) n
    refine ⟨fun cs x h => ?_, fun cs x h => ?_⟩
    · obtain ⟨ys, n', hn, _, hcl, hlen, hg⟩ := DataW.trod_struct Tryz.underlying29 h
      obtain rfl : n = n' := by omega
      rw [cellsE] at hcl
      obtain ⟨c0, c1, c2, c3, c4, c5, rfl⟩ := six_of hcl
      match ys, hlen with
      | [y0, y1, y2, y3], _ =>
        have t0 : DataW.trod enc Tryz.prog W 0 (fun _ => true) true n 9 (([c0, c1, c2, c3, c4, c5].drop 0).take (Tryz.prog.cellsOf 9)) = some y0 := hg 0 _ rfl
        have t1 : DataW.trod enc Tryz.prog W 0 (fun _ => true) true n 26 (([c0, c1, c2, c3, c4, c5].drop 1).take (Tryz.prog.cellsOf 26)) = some y1 := hg 1 _ rfl
        have t2 : DataW.trod enc Tryz.prog W 0 (fun _ => true) true n 9 (([c0, c1, c2, c3, c4, c5].drop 4).take (Tryz.prog.cellsOf 9)) = some y2 := hg 2 _ rfl
        have t3 : DataW.trod enc Tryz.prog W 0 (fun _ => true) true n 27 (([c0, c1, c2, c3, c4, c5].drop 5).take (Tryz.prog.cellsOf 27)) = some y3 := hg 3 _ rfl
        rw [cells1s] at t0 t2
        rw [cells3v] at t1
        rw [cells1l] at t3
        obtain ⟨o, e0, _, w0⟩ := DataW.trod_string Tryz.underlying9 t0
        obtain ⟨v, e1, e2, e3, hok⟩ := open_val_t t1
        obtain ⟨s, e4, _, w4⟩ := DataW.trod_string Tryz.underlying9 t2
        obtain ⟨A, l, c, e5, h1, h2, h3⟩ := ih2 _ _ t3
        simp at e0 e4 e5
        subst e0 e1 e2 e3 e4 e5
        exact ⟨.mk o.data.toList v s.data.toList l, A, c, rfl, ⟨hok.2.1, str_len w0, str_len w4, hok.2.2⟩, h1, h2, h3.up n⟩
    · rcases DataW.trod_slice Tryz.underlying27 h with ⟨rfl, _⟩ | ⟨a, len, cap, elems, rest, n', hn, rfl, _, _, hl, hm, hlen, hel, _, _⟩
      · exact ⟨none, [], 0, rfl, Nat.le_refl _, Nat.zero_le _, ExS.nil _⟩
      · obtain rfl : n = n' := by omega
        rw [cellsE] at hel
        have key : ∀ i, i < len → ∃ (e : Ex) (A : Option Addr) (c : Nat), e.fit maxLen ∧ e.l.length ≤ c ∧ c ≤ maxLen ∧ ExS maxLen n W W.heap.size A e.l ∧ ∀ j, j < 6 → W.cell? ((a.add (i * 6)).add j) = (e.cells A c)[j]? := by
          intro i hi
          have hb := hel i hi
          rw [List.getElem?_eq_getElem (by omega)] at hb
          obtain ⟨cs', hc, ht⟩ := Option.bind_eq_some_iff.1 hb
          obtain ⟨_, _, hat⟩ := World.cells?_some hc
          obtain ⟨e, A, c, rfl, hf, h1, h2, h3⟩ := ih1 _ _ ht
          exact ⟨e, A, c, hf, h1, h2, h3, hat⟩
        have key2 : ∃ f : Nat → Ex, ∀ i, i < len → ∃ (A : Option Addr) (c : Nat), (f i).fit maxLen ∧ (f i).l.length ≤ c ∧ c ≤ maxLen ∧ ExS maxLen n W W.heap.size A (f i).l ∧ ∀ j, j < 6 → W.cell? ((a.add (i * 6)).add j) = ((f i).cells A c)[j]? := by
          refine ⟨fun i => if h : i < len then (key i h).choose else .mk [] V.zero [] [], fun i h => ?_⟩
          simp only [h, dite_true]
          exact (key i h).choose_spec
        obtain ⟨f, hfk⟩ := key2
        refine ⟨some a, (List.range len).map f, cap, by simp, by simpa using hl, hm, ?_⟩
        intro hpos
        obtain ⟨A0, c0, _, _, _, _, h0⟩ := hfk 0 (by simpa using hpos)
        have h00 := h0 0 (by omega)
        have hspot : a.spot = none := by simpa [Addr.add] using World.cell?_spot (h00.trans (show _ = some _ from rfl))
        obtain ⟨b, off, spot⟩ := a
        simp only at hspot
        subst hspot
        have hb : b < W.heap.size := by
          have := World.block_lt_of_cell? W _ (h00.trans (show _ = some _ from rfl))
          simpa [add_mid] using this
        refine ⟨b, off, rfl, hb, fun i x hx => ?_⟩
        rw [List.getElem?_map] at hx
        by_cases hil : i < len
        · rw [List.getElem?_range hil] at hx
          simp at hx
          subst hx
          obtain ⟨A, c, hf, h1, h2, h3, hk⟩ := hfk i hil
          have hk' : ∀ j, j < 6 → W.cell? ⟨b, off + i * 6 + j, none⟩ = ((f i).cells A c)[j]? := fun j hj => by
            have := hk j hj
            rw [add_mid, add_mid] at this
            exact this
          exact ⟨A, c, hf, h1, h2, ⟨hk' 0 (by omega), hk' 1 (by omega), hk' 2 (by omega), hk' 3 (by omega), hk' 4 (by omega), hk' 5 (by omega)⟩, h3⟩
        · rw [List.getElem?_eq_none (by simpa using hil)] at hx
          simp at hx

set_option maxRecDepth 100000 in
theorem open_ex {H : Type} {enc : TypeId × Value → H} {W : World} {base : Nat} {v : Value} {d : DataW H} {p : List MemPlace}
    (hv : Value.okWide Tryz.prog W .any base 29 v) (h : DataW.Trod enc Tryz.prog W 0 (fun _ => true) true 29 v d p) :
    ∃ (e : Ex) (A : Option Addr) (c n : Nat), v = .agg (e.cells A c).toArray ∧ e.fit maxLen ∧ e.l.length ≤ c ∧ c ≤ maxLen ∧ ExS maxLen n W W.heap.size A e.l := by
  obtain ⟨cs, rfl, _⟩ := okWide_struct Tryz.underlying29 hv
  obtain ⟨fuel, hf⟩ := h
  obtain ⟨e, A, c, hcs, h1, h2, h3, h4⟩ := (open_ex_both fuel).1 _ _ hf
  refine ⟨e, A, c, fuel, ?_, h1, h2, h3, h4⟩
  have : cs.toList = e.cells A c := by simpa [Value.cells] using hcs
  rw [← this]

theorem open_cols_t {H : Type} {enc : TypeId × Value → H} {W : World} {fuel : Nat} {cs : List Value} {x : DataW H × List MemPlace}
    (hf : DataW.trod enc Tryz.prog W 0 (fun _ => true) true fuel 22 cs = some x) :
    ∃ (A : Option Addr) (l : List Col) (c : Nat), cs = [.slice A l.length c] ∧ l.length ≤ c ∧ c ≤ maxLen ∧ ColS W W.heap.size A l ∧ ∀ x ∈ l, x.n.length ≤ maxLen := by
  rcases open_slice_fields Tryz.underlying22 Tryz.underlying77 (by kernel_rfl) (by kernel_rfl) hf with ⟨hcs, _⟩ | ⟨a, len0, cap0, m, D, Pl, hcs, _, hl, hm, hmm, _, hi⟩
  · exact ⟨none, [], 0, hcs, Nat.le_refl _, Nat.zero_le _, ColS.nil, fun x hx => by simp at hx⟩
  · simp only [if_true] at hmm
    have key : ∀ i, i < len0 → ∃ x : Col, x.n.length ≤ maxLen ∧ W.cell? (a.add (i * 3 + 0)) = some (.string ⟨x.n.toArray⟩) ∧ W.cell? (a.add (i * 3 + 1)) = some (.int .i64 x.t) ∧ W.cell? (a.add (i * 3 + 2)) = some (.bool x.b) := by
      intro i hilt
      obtain ⟨ys, n, _, _, _, hfield⟩ := hi i (by omega)
      obtain ⟨c0, y0, hc0, _, t0⟩ := hfield 0 _ rfl
      obtain ⟨c1, y1, hc1, _, t1⟩ := hfield 1 _ rfl
      obtain ⟨c2, y2, hc2, _, t2⟩ := hfield 2 _ rfl
      obtain ⟨s, e0, _, w0⟩ := DataW.trod_string Tryz.underlying9 t0
      obtain ⟨k, e1, _, w1⟩ := DataW.trod_int Tryz.underlying3 t1
      obtain ⟨b, e2, _⟩ := DataW.trod_bool Tryz.underlying4 t2
      simp at e0 e1 e2
      subst e0 e1 e2
      exact ⟨⟨s.data.toList, k, b⟩, str_len w0, hc0, hc1, hc2⟩
    have key2 : ∃ f : Nat → Col, ∀ i, i < len0 → (f i).n.length ≤ maxLen ∧ W.cell? (a.add (i * 3 + 0)) = some (.string ⟨(f i).n.toArray⟩) ∧ W.cell? (a.add (i * 3 + 1)) = some (.int .i64 (f i).t) ∧ W.cell? (a.add (i * 3 + 2)) = some (.bool (f i).b) := by
      refine ⟨fun i => if h : i < len0 then (key i h).choose else ⟨[], 0, false⟩, fun i h => ?_⟩
      simp only [h, dite_true]
      exact (key i h).choose_spec
    obtain ⟨f, hfk⟩ := key2
    refine ⟨some a, (List.range len0).map f, cap0, by simpa using hcs, by simpa using hl, hm, ?_, ?_⟩
    · intro hpos
      have h0 := (hfk 0 (by simpa using hpos)).2.1
      have hspot : a.spot = none := by simpa [Addr.add] using World.cell?_spot h0
      obtain ⟨b, off, spot⟩ := a
      simp only at hspot
      subst hspot
      have hb : b < W.heap.size := by
        have := World.block_lt_of_cell? W _ h0
        simpa [add_mid] using this
      refine ⟨b, off, rfl, hb, fun i x hx => ?_⟩
      rw [List.getElem?_map] at hx
      by_cases hil : i < len0
      · rw [List.getElem?_range hil] at hx
        simp at hx
        subst hx
        have hk := (hfk i hil).2
        rw [add_mid, add_mid, add_mid] at hk
        exact hk
      · rw [List.getElem?_eq_none (by simpa using hil)] at hx
        simp at hx
    · intro x hx
      simp only [List.mem_map, List.mem_range] at hx
      obtain ⟨i, hi', rfl⟩ := hx
      exact (hfk i hi').1

set_option maxRecDepth 100000 in
theorem open_cols {H : Type} {enc : TypeId × Value → H} {W : World} {base : Nat} {v : Value} {d : DataW H} {p : List MemPlace}
    (hv : Value.okWide Tryz.prog W .any base 22 v) (h : DataW.Trod enc Tryz.prog W 0 (fun _ => true) true 22 v d p) :
    ∃ (A : Option Addr) (l : List Col) (c : Nat), v = .slice A l.length c ∧ l.length ≤ c ∧ c ≤ maxLen ∧ ColS W W.heap.size A l ∧ ∀ x ∈ l, x.n.length ≤ maxLen := by
  obtain ⟨a0, len0, cap0, rfl⟩ := okWide_slice Tryz.underlying22 hv
  obtain ⟨fuel, hf⟩ := h
  obtain ⟨A, l, c, hcs, h1, h2, h3, h4⟩ := open_cols_t hf
  exact ⟨A, l, c, by simpa [Value.cells] using hcs, h1, h2, h3, h4⟩

end Go.Proofs.YtdhjogmkhbpcgaaGreat

namespace Go.Proofs.YtdhjogmkhbpcgaaGreat
open Go.ChangeShapes Go.WideShapes Go.ChangeAt Go.RowKit Go.Deep Go.Joins

theorem open_vals_t {H : Type} {enc : TypeId × Value → H} {W : World} {fuel : Nat} {cs : List Value} {x : DataW H × List MemPlace}
    (hf : DataW.trod enc Tryz.prog W 0 (fun _ => true) true fuel 43 cs = some x) :
    ∃ (A : Option Addr) (l : List V) (c : Nat), cs = [.slice A l.length c] ∧ l.length ≤ c ∧ c ≤ maxLen ∧ VS W W.heap.size A l ∧ ∀ x ∈ l, x.ok := by
  rcases open_slice_fields Tryz.underlying43 Tryz.underlying26 (by kernel_rfl) (by kernel_rfl) hf with ⟨hcs, _⟩ | ⟨a, len0, cap0, m, D, Pl, hcs, _, hl, hm, hmm, _, hi⟩
  · exact ⟨none, [], 0, hcs, Nat.le_refl _, Nat.zero_le _, VS.nil, fun x hx => by simp at hx⟩
  · simp only [if_true] at hmm
    have key : ∀ i, i < len0 → ∃ x : V, x.ok ∧ W.cell? (a.add (i * 3 + 0)) = some (.int .i64 x.k) ∧ W.cell? (a.add (i * 3 + 1)) = some (.int .i64 x.i) ∧ W.cell? (a.add (i * 3 + 2)) = some (.string ⟨x.s.toArray⟩) := by
      intro i hilt
      obtain ⟨ys, n, _, _, _, hfield⟩ := hi i (by omega)
      obtain ⟨c0, y0, hc0, _, t0⟩ := hfield 0 _ rfl
      obtain ⟨c1, y1, hc1, _, t1⟩ := hfield 1 _ rfl
      obtain ⟨c2, y2, hc2, _, t2⟩ := hfield 2 _ rfl
      obtain ⟨k, e0, _, w0⟩ := DataW.trod_int Tryz.underlying3 t0
      obtain ⟨j, e1, _, w1⟩ := DataW.trod_int Tryz.underlying2 t1
      obtain ⟨s, e2, _, w2⟩ := DataW.trod_string Tryz.underlying9 t2
      simp at e0 e1 e2
      subst e0 e1 e2
      refine ⟨⟨k, j, s.data.toList⟩, ⟨i64_bounds w0, i64_bounds w1, ?_⟩, hc0, hc1, hc2⟩
      have hsz : s.data.toList.length = s.size := by rw [Array.length_toList]; rfl
      show s.data.toList.length ≤ 9223372036854775807
      unfold maxLen at w2
      omega
    have key2 : ∃ f : Nat → V, ∀ i, i < len0 → (f i).ok ∧ W.cell? (a.add (i * 3 + 0)) = some (.int .i64 (f i).k) ∧ W.cell? (a.add (i * 3 + 1)) = some (.int .i64 (f i).i) ∧ W.cell? (a.add (i * 3 + 2)) = some (.string ⟨(f i).s.toArray⟩) := by
      refine ⟨fun i => if h : i < len0 then (key i h).choose else ⟨0, 0, []⟩, fun i h => ?_⟩
      simp only [h, dite_true]
      exact (key i h).choose_spec
    obtain ⟨f, hfk⟩ := key2
    refine ⟨some a, (List.range len0).map f, cap0, by simpa using hcs, by simpa using hl, hm, ?_, ?_⟩
    · intro hpos
      have h0 := (hfk 0 (by simpa using hpos)).2.1
      have hspot : a.spot = none := by simpa [Addr.add] using World.cell?_spot h0
      obtain ⟨b, off, spot⟩ := a
      simp only at hspot
      subst hspot
      have hb : b < W.heap.size := by
        have := World.block_lt_of_cell? W _ h0
        simpa [add_mid] using this
      refine ⟨b, off, rfl, hb, fun i x hx => ?_⟩
      rw [List.getElem?_map] at hx
      by_cases hil : i < len0
      · rw [List.getElem?_range hil] at hx
        simp at hx
        subst hx
        have hk := (hfk i hil).2
        rw [add_mid, add_mid, add_mid] at hk
        exact hk
      · rw [List.getElem?_eq_none (by simpa using hil)] at hx
        simp at hx
    · intro x hx
      simp only [List.mem_map, List.mem_range] at hx
      obtain ⟨i, hi', rfl⟩ := hx
      exact (hfk i hi').1

set_option maxRecDepth 100000 in
theorem open_vals {H : Type} {enc : TypeId × Value → H} {W : World} {base : Nat} {v : Value} {d : DataW H} {p : List MemPlace}
    (hv : Value.okWide Tryz.prog W .any base 43 v) (h : DataW.Trod enc Tryz.prog W 0 (fun _ => true) true 43 v d p) :
    ∃ (A : Option Addr) (l : List V) (c : Nat), v = .slice A l.length c ∧ l.length ≤ c ∧ c ≤ maxLen ∧ VS W W.heap.size A l ∧ ∀ x ∈ l, x.ok := by
  obtain ⟨a0, len0, cap0, rfl⟩ := okWide_slice Tryz.underlying43 hv
  obtain ⟨fuel, hf⟩ := h
  obtain ⟨A, l, c, hcs, h1, h2, h3, h4⟩ := open_vals_t hf
  exact ⟨A, l, c, by simpa [Value.cells] using hcs, h1, h2, h3, h4⟩

end Go.Proofs.YtdhjogmkhbpcgaaGreat
