/- How arguments of the laws are opened: a table, a table with rows. -/
import Derived.Test.YtdhjogmkhbpcgaaGreatOpenM
import Derived.Test.YtdhjogmkhbpcgaaGreatFew67M
namespace Go.Proofs.YtdhjogmkhbpcgaaGreat
open Go.ChangeShapes Go.WideShapes Go.ChangeAt Go.RowKit Go.Deep Go.Joins

theorem cells1i : Tryz.prog.cellsOf 3 = 1 := by kernel_rfl
theorem cells1c : Tryz.prog.cellsOf 22 = 1 := by kernel_rfl
theorem cells1n : Tryz.prog.cellsOf 23 = 1 := by kernel_rfl
theorem cells1f : Tryz.prog.cellsOf 24 = 1 := by kernel_rfl
theorem cells1v : Tryz.prog.cellsOf 43 = 1 := by kernel_rfl
theorem cells1r : Tryz.prog.cellsOf 32 = 1 := by kernel_rfl
theorem cellsT : Tryz.prog.cellsOf 31 = 11 := by kernel_rfl
theorem cellsRl : Tryz.prog.cellsOf 34 = 12 := by kernel_rfl
theorem ColS.q {w : World} {B : Nat} {A : Option Addr} {l : List Col} (h : ColS w B A l) : CQ l A (Old B) w := h
theorem VS.q {w : World} {B : Nat} {A : Option Addr} {l : List V} (h : VS w B A l) : WQ l A (Old B) w := h

/-- A slice whose things take one cell each. -/
theorem open_ones {H : Type} {enc : TypeId × Value → H} {W : World} {fuel : Nat} {t e : TypeId} {cs : List Value} {x : DataW H × List MemPlace} {α : Type} (z : α) (G : α → Value → Prop)
    (ht : Tryz.prog.underlying t = some (.slice e)) (h1 : Tryz.prog.cellsOf e = 1)
    (hG : ∀ (f : Nat) (v : Value) (y : DataW H × List MemPlace), DataW.trod enc Tryz.prog W 0 (fun _ => true) true f e [v] = some y → ∃ a, G a v)
    (h : DataW.trod enc Tryz.prog W 0 (fun _ => true) true fuel t cs = some x) :
    ∃ (A : Option Addr) (l : List α) (c : Nat), cs = [.slice A l.length c] ∧ l.length ≤ c ∧ c ≤ maxLen ∧ (0 < l.length → ∃ b off, A = some ⟨b, off, none⟩ ∧ b < W.heap.size ∧ ∀ i a, l[i]? = some a → ∃ v, W.cell? ⟨b, off + i, none⟩ = some v ∧ G a v) := by
  rcases DataW.trod_slice ht h with ⟨rfl, _⟩ | ⟨a, len, cap, elems, rest, n', hn, rfl, _, _, hl, hm, hlen, hel, _, _⟩
  · exact ⟨none, [], 0, rfl, Nat.le_refl _, Nat.zero_le _, fun h => absurd h (by simp)⟩
  · rw [h1] at hel
    have key : ∀ i, i < len → ∃ (g : α) (v : Value), W.cell? (a.add (i * 1)) = some v ∧ G g v := by
      intro i hi
      have hb := hel i hi
      rw [List.getElem?_eq_getElem (by omega)] at hb
      obtain ⟨cs', hc, ht'⟩ := Option.bind_eq_some_iff.1 hb
      obtain ⟨_, hcl, hat⟩ := World.cells?_some hc
      match cs', hcl with
      | [v], _ =>
        obtain ⟨g, hg⟩ := hG _ _ _ ht'
        refine ⟨g, v, ?_, hg⟩
        have := hat 0 (by omega)
        have e : (a.add (i * 1)).add 0 = a.add (i * 1) := by obtain ⟨b, o, s⟩ := a; cases s <;> simp [Addr.add]
        rw [e] at this
        exact this
    have key2 : ∃ f : Nat → α, ∀ i, i < len → ∃ v, W.cell? (a.add (i * 1)) = some v ∧ G (f i) v := by
      refine ⟨fun i => if h : i < len then (key i h).choose else z, fun i h => ?_⟩
      simp only [h, dite_true]
      exact (key i h).choose_spec
    obtain ⟨f, hfk⟩ := key2
    refine ⟨some a, (List.range len).map f, cap, by simp, by simpa using hl, hm, ?_⟩
    intro hpos
    obtain ⟨v0, h00, _⟩ := hfk 0 (by simpa using hpos)
    have hspot : a.spot = none := by simpa [Addr.add] using World.cell?_spot h00
    obtain ⟨b, off, spot⟩ := a
    simp only at hspot
    subst hspot
    have hb : b < W.heap.size := by
      have := World.block_lt_of_cell? W _ h00
      simpa [add_mid] using this
    refine ⟨b, off, rfl, hb, fun i x hx => ?_⟩
    rw [List.getElem?_map] at hx
    by_cases hil : i < len
    · rw [List.getElem?_range hil] at hx
      simp at hx
      subst hx
      obtain ⟨v, hv, hg⟩ := hfk i hil
      rw [add_mid, Nat.mul_one] at hv
      exact ⟨v, hv, hg⟩
    · rw [List.getElem?_eq_none (by simpa using hil)] at hx
      simp at hx

theorem open_nums_t {H : Type} {enc : TypeId × Value → H} {W : World} {fuel : Nat} {cs : List Value} {x : DataW H × List MemPlace} (hf : DataW.trod enc Tryz.prog W 0 (fun _ => true) true fuel 23 cs = some x) :
    ∃ (A : Option Addr) (l : List Int) (c : Nat), cs = [.slice A l.length c] ∧ l.length ≤ c ∧ c ≤ maxLen ∧ IQ l A (Old W.heap.size) W := by
  obtain ⟨A, l, c, h1, h2, h3, h4⟩ := open_ones (0 : Int) (fun n v => v = .int .i64 n) Tryz.underlying23 cells1i (fun f v y h => by
    obtain ⟨k, e, _, _⟩ := DataW.trod_int Tryz.underlying3 h
    simp at e
    exact ⟨k, e⟩) hf
  refine ⟨A, l, c, h1, h2, h3, fun hl => ?_⟩
  obtain ⟨b, off, rfl, hb, hr⟩ := h4 hl
  refine ⟨b, off, rfl, hb, fun i n hn => ?_⟩
  obtain ⟨v, hv, rfl⟩ := hr i n hn
  exact hv
theorem open_rows_t {H : Type} {enc : TypeId × Value → H} {W : World} {fuel : Nat} {cs : List Value} {x : DataW H × List MemPlace} (hf : DataW.trod enc Tryz.prog W 0 (fun _ => true) true fuel 32 cs = some x) :
    ∃ (A : Option Addr) (l : List (List V)) (c : Nat), cs = [.slice A l.length c] ∧ l.length ≤ c ∧ c ≤ maxLen ∧ RQ l A (Old W.heap.size) W ∧ ∀ r ∈ l, r.length ≤ maxLen ∧ ∀ v ∈ r, v.ok := by
  obtain ⟨A, l, c, h1, h2, h3, h4⟩ := open_ones ([] : List V) (fun r v => ∃ A' c', v = .slice A' r.length c' ∧ (r.length ≤ maxLen ∧ ∀ x ∈ r, x.ok) ∧ WQ r A' (Old W.heap.size) W) Tryz.underlying32 cells1v (fun f v y h => by
    obtain ⟨A', r, c', e, g1, g2, g3, g4⟩ := open_vals_t h
    simp at e
    exact ⟨r, A', c', e, ⟨Nat.le_trans g1 g2, g4⟩, g3⟩) hf
  refine ⟨A, l, c, h1, h2, h3, fun hl => ?_, fun r hr => ?_⟩
  · obtain ⟨b, off, rfl, hb, hr⟩ := h4 hl
    refine ⟨b, off, rfl, hb, fun i r hn => ?_⟩
    obtain ⟨v, hv, A', c', rfl, _, hw⟩ := hr i r hn
    exact ⟨A', c', hv, hw⟩
  · obtain ⟨i, hi⟩ := List.mem_iff_getElem?.1 hr
    have hpos : 0 < l.length := by
      have := (List.getElem?_eq_some_iff.1 hi).1
      omega
    obtain ⟨b, off, _, _, hrr⟩ := h4 hpos
    obtain ⟨v, _, A', c', _, ho, _⟩ := hrr i r hi
    exact ho

theorem open_frs_t {H : Type} {enc : TypeId × Value → H} {W : World} {fuel : Nat} {cs : List Value} {x : DataW H × List MemPlace} (hf : DataW.trod enc Tryz.prog W 0 (fun _ => true) true fuel 24 cs = some x) :
    ∃ (A : Option Addr) (l : List Fr) (c : Nat), cs = [.slice A l.length c] ∧ l.length ≤ c ∧ c ≤ maxLen ∧ FQ l A (Old W.heap.size) W ∧ ∀ f ∈ l, f.t.length ≤ maxLen := by
  rcases open_slice_fields Tryz.underlying24 Tryz.underlying80 (by kernel_rfl) (by kernel_rfl) hf with ⟨hcs, _⟩ | ⟨a, len0, cap0, m, D, Pl, hcs, _, hl, hm, hmm, _, hi⟩
  · exact ⟨none, [], 0, hcs, Nat.le_refl _, Nat.zero_le _, FQ.nil, fun x hx => by simp at hx⟩
  · simp only [if_true] at hmm
    have key : ∀ i, i < len0 → ∃ x : Fr, x.t.length ≤ maxLen ∧ W.cell? (a.add (i * 2 + 0)) = some (.int .i64 x.c) ∧ W.cell? (a.add (i * 2 + 1)) = some (.string ⟨x.t.toArray⟩) := by
      intro i hilt
      obtain ⟨ys, n, _, _, _, hfield⟩ := hi i (by omega)
      obtain ⟨c0, y0, hc0, _, t0⟩ := hfield 0 _ rfl
      obtain ⟨c1, y1, hc1, _, t1⟩ := hfield 1 _ rfl
      obtain ⟨k, e0, _, w0⟩ := DataW.trod_int Tryz.underlying3 t0
      obtain ⟨s, e1, _, w1⟩ := DataW.trod_string Tryz.underlying9 t1
      simp at e0 e1
      subst e0 e1
      exact ⟨⟨k, s.data.toList⟩, str_len w1, hc0, hc1⟩
    have key2 : ∃ f : Nat → Fr, ∀ i, i < len0 → (f i).t.length ≤ maxLen ∧ W.cell? (a.add (i * 2 + 0)) = some (.int .i64 (f i).c) ∧ W.cell? (a.add (i * 2 + 1)) = some (.string ⟨(f i).t.toArray⟩) := by
      refine ⟨fun i => if h : i < len0 then (key i h).choose else ⟨0, []⟩, fun i h => ?_⟩
      simp only [h, dite_true]
      exact (key i h).choose_spec
    obtain ⟨f, hfk⟩ := key2
    refine ⟨some a, (List.range len0).map f, cap0, by simpa using hcs, by simpa using hl, hm, ?_, ?_⟩
    · intro hpos
      have h0 := (hfk 0 (by simpa using hpos)).2.1
      have hspot : a.spot = none := by simpa [Addr.add] using World.cell?_spot h0
      obtain ⟨b, off, spot⟩ := a
      simp only at hspot
      subst hspot
      have hb : b < W.heap.size := by
        have := World.block_lt_of_cell? W _ h0
        simpa [add_mid] using this
      refine ⟨b, off, rfl, hb, fun i x hx => ?_⟩
      rw [List.getElem?_map] at hx
      by_cases hil : i < len0
      · rw [List.getElem?_range hil] at hx
        simp at hx
        subst hx
        have hk := (hfk i hil).2
        rw [add_mid, add_mid] at hk
        exact hk
      · rw [List.getElem?_eq_none (by simpa using hil)] at hx
        simp at hx
    · intro x hx
      simp only [List.mem_map, List.mem_range] at hx
      obtain ⟨i, hi', rfl⟩ := hx
      exact (hfk i hi').1

set_option maxRecDepth 100000 in
theorem open_tb_t {H : Type} {enc : TypeId × Value → H} {W : World} {fuel : Nat} {cs : List Value} {x : DataW H × List MemPlace} (hf : DataW.trod enc Tryz.prog W 0 (fun _ => true) true fuel 31 cs = some x) :
    ∃ (t : Tb) (p : TbP), cs = t.cells p ∧ t.big ∧ TbQ maxLen t p (Old W.heap.size) W := by
  obtain ⟨ys, n, _, _, hcl, hlen, hg⟩ := DataW.trod_struct Tryz.underlying31 hf
  rw [cellsT] at hcl
  match cs, hcl with
  | [c0, c1, c2, c3, c4, c5, c6, c7, c8, c9, c10], _ =>
    match ys, hlen with
    | [y0, y1, y2, y3, y4, y5], _ =>
      have t0 : DataW.trod enc Tryz.prog W 0 (fun _ => true) true n 9 (([c0, c1, c2, c3, c4, c5, c6, c7, c8, c9, c10].drop 0).take (Tryz.prog.cellsOf 9)) = some y0 := hg 0 _ rfl
      have t1 : DataW.trod enc Tryz.prog W 0 (fun _ => true) true n 22 (([c0, c1, c2, c3, c4, c5, c6, c7, c8, c9, c10].drop 1).take (Tryz.prog.cellsOf 22)) = some y1 := hg 1 _ rfl
      have t2 : DataW.trod enc Tryz.prog W 0 (fun _ => true) true n 3 (([c0, c1, c2, c3, c4, c5, c6, c7, c8, c9, c10].drop 2).take (Tryz.prog.cellsOf 3)) = some y2 := hg 2 _ rfl
      have t3 : DataW.trod enc Tryz.prog W 0 (fun _ => true) true n 23 (([c0, c1, c2, c3, c4, c5, c6, c7, c8, c9, c10].drop 3).take (Tryz.prog.cellsOf 23)) = some y3 := hg 3 _ rfl
      have t4 : DataW.trod enc Tryz.prog W 0 (fun _ => true) true n 24 (([c0, c1, c2, c3, c4, c5, c6, c7, c8, c9, c10].drop 4).take (Tryz.prog.cellsOf 24)) = some y4 := hg 4 _ rfl
      have t5 : DataW.trod enc Tryz.prog W 0 (fun _ => true) true n 29 (([c0, c1, c2, c3, c4, c5, c6, c7, c8, c9, c10].drop 5).take (Tryz.prog.cellsOf 29)) = some y5 := hg 5 _ rfl
      rw [cells1s] at t0
      rw [cells1c] at t1
      rw [cells1i] at t2
      rw [cells1n] at t3
      rw [cells1f] at t4
      rw [cellsE] at t5
      obtain ⟨s, e0, _, w0⟩ := DataW.trod_string Tryz.underlying9 t0
      obtain ⟨A1, cols, k1, e1, g1, g2, g3, g4⟩ := open_cols_t t1
      obtain ⟨key, e2, _, _⟩ := DataW.trod_int Tryz.underlying3 t2
      obtain ⟨A2, uq, k2, e3, u1, u2, u3⟩ := open_nums_t t3
      obtain ⟨A3, rf, k3, e4, r1, r2, r3, r4⟩ := open_frs_t t4
      obtain ⟨e, A4, k4, e5, f1, f2, f3, f4⟩ := (open_ex_both n).1 _ _ t5
      simp at e0 e1 e2 e3 e4
      subst e0 e1 e2 e3 e4
      refine ⟨⟨s.data.toList, cols, key, uq, rf, e⟩, ⟨⟨A1, k1⟩, ⟨A2, k2⟩, ⟨A3, k3⟩, ⟨A4, k4⟩⟩, ?_, ⟨str_len w0, Nat.le_trans g1 g2, g4, Nat.le_trans u1 u2, Nat.le_trans r1 r2, r4, f1, Nat.le_trans f2 f3⟩, ⟨g3.q, u3, r3, n, f4.toQ n⟩⟩
      have e5' : [c5, c6, c7, c8, c9, c10] = e.cells A4 k4 := e5
      simp only [Ex.cells, List.cons.injEq, and_true] at e5'
      obtain ⟨rfl, rfl, rfl, rfl, rfl, rfl⟩ := e5'
      rfl

set_option maxRecDepth 100000 in
theorem open_rl_t {H : Type} {enc : TypeId × Value → H} {W : World} {fuel : Nat} {cs : List Value} {x : DataW H × List MemPlace} (hf : DataW.trod enc Tryz.prog W 0 (fun _ => true) true fuel 34 cs = some x) :
    ∃ (x : Rl) (p : RlP), cs = x.cells p ∧ x.big ∧ RlQ maxLen x p (Old W.heap.size) W := by
  obtain ⟨ys, n, _, _, hcl, hlen, hg⟩ := DataW.trod_struct Tryz.underlying34 hf
  rw [cellsRl] at hcl
  match cs, hcl with
  | [c0, c1, c2, c3, c4, c5, c6, c7, c8, c9, c10, c11], _ =>
    match ys, hlen with
    | [y0, y1], _ =>
      have t0 : DataW.trod enc Tryz.prog W 0 (fun _ => true) true n 31 (([c0, c1, c2, c3, c4, c5, c6, c7, c8, c9, c10, c11].drop 0).take (Tryz.prog.cellsOf 31)) = some y0 := hg 0 _ rfl
      have t1 : DataW.trod enc Tryz.prog W 0 (fun _ => true) true n 32 (([c0, c1, c2, c3, c4, c5, c6, c7, c8, c9, c10, c11].drop 11).take (Tryz.prog.cellsOf 32)) = some y1 := hg 1 _ rfl
      rw [cellsT] at t0
      rw [cells1r] at t1
      obtain ⟨t, p, e0, hb, hq⟩ := open_tb_t t0
      obtain ⟨A5, rows, k5, e1, r1, r2, r3, r4⟩ := open_rows_t t1
      simp at e1
      subst e1
      obtain ⟨b1, b2, b3, b4, b5, b6, b7, b8⟩ := hb
      refine ⟨⟨t, rows⟩, ⟨p, ⟨A5, k5⟩⟩, ?_, ⟨b1, b2, b3, b4, b5, b6, b7, b8, Nat.le_trans r1 r2, fun r hr => ⟨(r4 r hr).1, fun v hv => ((r4 r hr).2 v hv).2.1⟩⟩, ⟨hq, r3⟩⟩
      have e0' : [c0, c1, c2, c3, c4, c5, c6, c7, c8, c9, c10] = t.cells p := e0
      simp only [Tb.cells, List.cons.injEq, and_true] at e0'
      obtain ⟨rfl, rfl, rfl, rfl, rfl, rfl, rfl, rfl, rfl, rfl, rfl⟩ := e0'
      rfl
set_option maxRecDepth 100000 in
theorem open_rl {H : Type} {enc : TypeId × Value → H} {W : World} {base : Nat} {v : Value} {d : DataW H} {p : List MemPlace}
    (hv : Value.okWide Tryz.prog W .any base 34 v) (h : DataW.Trod enc Tryz.prog W 0 (fun _ => true) true 34 v d p) :
    ∃ (x : Rl) (q : RlP), v = .agg (x.cells q).toArray ∧ x.big ∧ RlQ maxLen x q (Old W.heap.size) W := by
  obtain ⟨cs, rfl, _⟩ := okWide_struct Tryz.underlying34 hv
  obtain ⟨fuel, hf⟩ := h
  obtain ⟨x, q, hcs, h1, h2⟩ := open_rl_t hf
  refine ⟨x, q, ?_, h1, h2⟩
  have : cs.toList = x.cells q := by simpa [Value.cells] using hcs
  rw [← this]

end Go.Proofs.YtdhjogmkhbpcgaaGreat
