/- How arguments of the laws are opened: a value. How arguments of the laws are opened: an expression (a tree), a slice of columns. How arguments of the laws are opened: a slice of values. A drawn region whose last operations write what its first ones read: the reads are taken first, for what writes waits for what waits for them. No program in sight. How arguments of the laws are opened: a table, a table with rows. -/
import Derived.Test.YtdhjogmkhbpcgaaGreatRows
import Derived.Test.YtdhjogmkhbpcgaaGreatBase
import Derived.Lib.SmallJoins
import Derived.OpenShut
import Derived.ShutString
import Derived.ChangeOld
import Derived.Test.YtdhjogmkhbpcgaaGreatExAM
import Derived.Deep.RegionHeld3
import Derived.Test.YtdhjogmkhbpcgaaGreatFew67M
namespace Go.Proofs.YtdhjogmkhbpcgaaGreat
open Go.ChangeShapes Go.WideShapes Go.ChangeAt Go.RowKit Go.Deep Go.Joins

theorem own : ownKnob Tryz.prog.godebug = none := by kernel_rfl
theorem laidOut : laidOutB Tryz.prog = true := by kernel_rfl

section
variable {H : Type} {enc : TypeId × Value → H} {P : Program} {w : World} {base : Nat} {spare : Nat → Bool} {held : Bool}
theorem open_slice_fields {t e : TypeId} {fs : Array Field} {fuel : Nat} {cs : List Value} {x : DataW H × List MemPlace} (ht : P.underlying t = some (.slice e)) (he : P.underlying e = some (.struct fs))
    (hone : oneCellFields P fs = true) (hC : P.cellsOf e = fs.size) (h : DataW.trod enc P w base spare held fuel t cs = some x) :
    (cs = [.slice none 0 0] ∧ x = (.nil, [])) ∨
    ∃ (a : Addr) (len cap m : Nat) (D : Nat → DataW H) (Pl : Nat → List MemPlace), cs = [.slice (some a) len cap] ∧ base ≤ a.block ∧ len ≤ cap ∧ cap ≤ maxLen ∧ m = (if spare a.block then cap else len) ∧
      x = (.slice ((List.range len).map D) ((List.range (m - len)).map fun j => D (len + j)), MemPlace.row a (m * fs.size) ++ (List.range m).flatMap Pl) ∧
      ∀ i, i < m → ∃ (ys : List (DataW H × List MemPlace)) (n : Nat), D i = .agg (ys.map (·.1)) ∧ Pl i = ys.flatMap (·.2) ∧ ys.length = fs.size ∧
        ∀ (j : Nat) (f : Field), fs[j]? = some f → ∃ (v : Value) (y : DataW H × List MemPlace), w.cell? (a.add (i * fs.size + j)) = some v ∧ ys[j]? = some y ∧ DataW.trod enc P w base spare held n f.type [v] = some y := by
  rcases open_slice ht h with h0 | ⟨a, len, cap, m, n, D, Pl, hcs, hb, hl, hm, hmm, hx, hi⟩
  · exact .inl h0
  · refine .inr ⟨a, len, cap, m, D, Pl, hcs, hb, hl, hm, hmm, by rw [hC] at hx; exact hx, fun i him => ?_⟩
    obtain ⟨cs', hc, ht'⟩ := hi i him
    rw [hC] at hc
    obtain ⟨ys, n', hn', hy, hlen, hyl, hf⟩ := DataW.trod_struct he ht'
    obtain ⟨_, hcl, hat⟩ := World.cells?_some hc
    simp only [Prod.mk.injEq] at hy
    refine ⟨ys, n', hy.1, hy.2, hyl, fun j f hj => ?_⟩
    obtain ⟨ho, hk⟩ := hone_of hone j f hj
    have hjl : j < fs.size := (Array.getElem?_eq_some_iff.1 hj).1
    have hcell := hat j hjl
    have hv : cs'[j]? = some (cs'[j]'(by omega)) := List.getElem?_eq_getElem (by omega)
    have h1 := hf j f hj
    rw [ho, hk] at h1
    have hone' : (cs'.drop j).take 1 = [cs'[j]'(by omega)] := by
      rw [List.drop_eq_getElem_cons (by omega)]
      rfl
    rw [hone'] at h1
    have hys : ys[j]? = some (ys[j]'(by omega)) := List.getElem?_eq_getElem (by omega)
    refine ⟨_, _, ?_, hys, h1.trans hys⟩
    rw [← Go.Deep.add_add, hcell, hv]
end

/-- A number of 64 bits, and a text that a length counts. -/
def V.ok (v : V) : Prop := (-9223372036854775808 ≤ v.k ∧ v.k ≤ 9223372036854775807) ∧ (-9223372036854775808 ≤ v.i ∧ v.i ≤ 9223372036854775807) ∧ v.s.length ≤ 9223372036854775807

theorem i64_bounds {n : Int} (h : (Lit.int .i64 n).wf = true) : -9223372036854775808 ≤ n ∧ n ≤ 9223372036854775807 := by
  simpa [Lit.wf, IntKind.min, IntKind.max, IntKind.signed, IntKind.bits] using h

/-- Three cells that read as a value. -/
theorem open_val_t {H : Type} {enc : TypeId × Value → H} {W : World} {fuel : Nat} {c0 c1 c2 : Value} {x : DataW H × List MemPlace}
    (hf : DataW.trod enc Tryz.prog W 0 (fun _ => true) true fuel 26 [c0, c1, c2] = some x) :
    ∃ x : V, c0 = .int .i64 x.k ∧ c1 = .int .i64 x.i ∧ c2 = .string ⟨x.s.toArray⟩ ∧ x.ok := by
  obtain ⟨ys, n, _, _, _, hlen, hg⟩ := DataW.trod_struct Tryz.underlying26 hf
  match ys, hlen with
  | [y0, y1, y2], _ =>
    have s0 : Tryz.prog.cellsOf 3 = 1 := by kernel_rfl
    have s1 : Tryz.prog.cellsOf 2 = 1 := by kernel_rfl
    have s2 : Tryz.prog.cellsOf 9 = 1 := by kernel_rfl
    have t0 : DataW.trod enc Tryz.prog W 0 (fun _ => true) true n 3 (([c0, c1, c2].drop 0).take (Tryz.prog.cellsOf 3)) = some y0 := hg 0 _ rfl
    have t1 : DataW.trod enc Tryz.prog W 0 (fun _ => true) true n 2 (([c0, c1, c2].drop 1).take (Tryz.prog.cellsOf 2)) = some y1 := hg 1 _ rfl
    have t2 : DataW.trod enc Tryz.prog W 0 (fun _ => true) true n 9 (([c0, c1, c2].drop 2).take (Tryz.prog.cellsOf 9)) = some y2 := hg 2 _ rfl
    rw [s0] at t0
    rw [s1] at t1
    rw [s2] at t2
    obtain ⟨k, e0, _, w0⟩ := DataW.trod_int Tryz.underlying3 t0
    obtain ⟨j, e1, _, w1⟩ := DataW.trod_int Tryz.underlying2 t1
    obtain ⟨s, e2, _, w2⟩ := DataW.trod_string Tryz.underlying9 t2
    simp at e0 e1 e2
    subst e0 e1 e2
    refine ⟨⟨k, j, s.data.toList⟩, rfl, rfl, rfl, i64_bounds w0, i64_bounds w1, ?_⟩
    have hsz : s.data.toList.length = s.size := by rw [Array.length_toList]; rfl
    show s.data.toList.length ≤ 9223372036854775807
    unfold maxLen at w2
    omega

theorem cellsV : Tryz.prog.cellsOf 26 = 3 := by kernel_rfl

set_option maxRecDepth 100000 in
theorem open_val {H : Type} {enc : TypeId × Value → H} {W : World} {base : Nat} {v : Value} {d : DataW H} {p : List MemPlace}
    (hv : Value.okWide Tryz.prog W .any base 26 v) (h : DataW.Trod enc Tryz.prog W 0 (fun _ => true) true 26 v d p) :
    ∃ x : V, v = .agg #[.int .i64 x.k, .int .i64 x.i, .string ⟨x.s.toArray⟩] ∧ x.ok := by
  obtain ⟨c0, c1, c2, y0, y1, y2, m, rfl, _, _, t0, t1, t2⟩ := open_agg3 Tryz.underlying26 (by kernel_rfl) cellsV hv h
  obtain ⟨k, e0, _, w0⟩ := DataW.trod_int Tryz.underlying3 t0
  obtain ⟨j, e1, _, w1⟩ := DataW.trod_int Tryz.underlying2 t1
  obtain ⟨s, e2, _, w2⟩ := DataW.trod_string Tryz.underlying9 t2
  simp at e0 e1 e2
  subst e0 e1 e2
  refine ⟨⟨k, j, s.data.toList⟩, rfl, i64_bounds w0, i64_bounds w1, ?_⟩
  have hsz : s.data.toList.length = s.size := by rw [Array.length_toList]; rfl
  show s.data.toList.length ≤ 9223372036854775807
  unfold maxLen at w2
  omega

end Go.Proofs.YtdhjogmkhbpcgaaGreat

namespace Go.Proofs.YtdhjogmkhbpcgaaGreat
open Go.ChangeShapes Go.WideShapes Go.ChangeAt Go.RowKit Go.Deep Go.Joins

theorem six_of {α : Type} {cs : List α} (h : cs.length = 6) : ∃ a b c d e f, cs = [a, b, c, d, e, f] := by
  match cs, h with
  | [a, b, c, d, e, f], _ => exact ⟨a, b, c, d, e, f, rfl⟩

theorem cellsE : Tryz.prog.cellsOf 29 = 6 := by kernel_rfl
theorem cells1s : Tryz.prog.cellsOf 9 = 1 := by kernel_rfl
theorem cells1l : Tryz.prog.cellsOf 27 = 1 := by kernel_rfl
theorem cells3v : Tryz.prog.cellsOf 26 = 3 := by kernel_rfl
theorem str_len {s : ByteArray} (h : s.size ≤ maxLen) : s.data.toList.length ≤ maxLen := by
  have hsz : s.data.toList.length = s.size := by rw [Array.length_toList]; rfl
  omega

set_option maxRecDepth 100000 in
theorem open_ex_both {H : Type} {enc : TypeId × Value → H} {W : World} : ∀ fuel : Nat,
    (∀ (cs : List Value) (x : DataW H × List MemPlace), DataW.trod enc Tryz.prog W 0 (fun _ => true) true fuel 29 cs = some x →
      ∃ (e : Ex) (A : Option Addr) (c : Nat), cs = e.cells A c ∧ e.fit maxLen ∧ e.l.length ≤ c ∧ c ≤ maxLen ∧ ExS maxLen fuel W W.heap.size A e.l) ∧
    (∀ (cs : List Value) (x : DataW H × List MemPlace), DataW.trod enc Tryz.prog W 0 (fun _ => true) true fuel 27 cs = some x →
      ∃ (A : Option Addr) (l : List Ex) (c : Nat), cs = [.slice A l.length c] ∧ l.length ≤ c ∧ c ≤ maxLen ∧ ExS maxLen fuel W W.heap.size A l)
  | 0 => ⟨fun cs x h => by simp [DataW.trod] at h, fun cs x h => by simp [DataW.trod] at h⟩
  | n + 1 => by
    obtain ⟨ih1, ih2⟩ := open_ex_both (enc := enc) (W := W) n
    refine ⟨fun cs x h => ?_, fun cs x h => ?_⟩
    · obtain ⟨ys, n', hn, _, hcl, hlen, hg⟩ := DataW.trod_struct Tryz.underlying29 h
      obtain rfl : n = n' := by omega
      rw [cellsE] at hcl
      obtain ⟨c0, c1, c2, c3, c4, c5, rfl⟩ := six_of hcl
      match ys, hlen with
      | [y0, y1, y2, y3], _ =>
        have t0 : DataW.trod enc Tryz.prog W 0 (fun _ => true) true n 9 (([c0, c1, c2, c3, c4, c5].drop 0).take (Tryz.prog.cellsOf 9)) = some y0 := hg 0 _ rfl
        have t1 : DataW.trod enc Tryz.prog W 0 (fun _ => true) true n 26 (([c0, c1, c2, c3, c4, c5].drop 1).take (Tryz.prog.cellsOf 26)) = some y1 := hg 1 _ rfl
        have t2 : DataW.trod enc Tryz.prog W 0 (fun _ => true) true n 9 (([c0, c1, c2, c3, c4, c5].drop 4).take (Tryz.prog.cellsOf 9)) = some y2 := hg 2 _ rfl
        have t3 : DataW.trod enc Tryz.prog W 0 (fun _ => true) true n 27 (([c0, c1, c2, c3, c4, c5].drop 5).take (Tryz.prog.cellsOf 27)) = some y3 := hg 3 _ rfl
        rw [cells1s] at t0 t2
        rw [cells3v] at t1
        rw [cells1l] at t3
        obtain ⟨o, e0, _, w0⟩ := DataW.trod_string Tryz.underlying9 t0
        obtain ⟨v, e1, e2, e3, hok⟩ := open_val_t t1
        obtain ⟨s, e4, _, w4⟩ := DataW.trod_string Tryz.underlying9 t2
        obtain ⟨A, l, c, e5, h1, h2, h3⟩ := ih2 _ _ t3
        simp at e0 e4 e5
        subst e0 e1 e2 e3 e4 e5
        exact ⟨.mk o.data.toList v s.data.toList l, A, c, rfl, ⟨hok.2.1, str_len w0, str_len w4, hok.2.2⟩, h1, h2, h3.up n⟩
    · rcases DataW.trod_slice Tryz.underlying27 h with ⟨rfl, _⟩ | ⟨a, len, cap, elems, rest, n', hn, rfl, _, _, hl, hm, hlen, hel, _, _⟩
      · exact ⟨none, [], 0, rfl, Nat.le_refl _, Nat.zero_le _, ExS.nil _⟩
      · obtain rfl : n = n' := by omega
        rw [cellsE] at hel
        have key : ∀ i, i < len → ∃ (e : Ex) (A : Option Addr) (c : Nat), e.fit maxLen ∧ e.l.length ≤ c ∧ c ≤ maxLen ∧ ExS maxLen n W W.heap.size A e.l ∧ ∀ j, j < 6 → W.cell? ((a.add (i * 6)).add j) = (e.cells A c)[j]? := by
          intro i hi
          have hb := hel i hi
          rw [List.getElem?_eq_getElem (by omega)] at hb
          obtain ⟨cs', hc, ht⟩ := Option.bind_eq_some_iff.1 hb
          obtain ⟨_, _, hat⟩ := World.cells?_some hc
          obtain ⟨e, A, c, rfl, hf, h1, h2, h3⟩ := ih1 _ _ ht
          exact ⟨e, A, c, hf, h1, h2, h3, hat⟩
        have key2 : ∃ f : Nat → Ex, ∀ i, i < len → ∃ (A : Option Addr) (c : Nat), (f i).fit maxLen ∧ (f i).l.length ≤ c ∧ c ≤ maxLen ∧ ExS maxLen n W W.heap.size A (f i).l ∧ ∀ j, j < 6 → W.cell? ((a.add (i * 6)).add j) = ((f i).cells A c)[j]? := by
          refine ⟨fun i => if h : i < len then (key i h).choose else .mk [] V.zero [] [], fun i h => ?_⟩
          simp only [h, dite_true]
          exact (key i h).choose_spec
        obtain ⟨f, hfk⟩ := key2
        refine ⟨some a, (List.range len).map f, cap, by simp, by simpa using hl, hm, ?_⟩
        intro hpos
        obtain ⟨A0, c0, _, _, _, _, h0⟩ := hfk 0 (by simpa using hpos)
        have h00 := h0 0 (by omega)
        have hspot : a.spot = none := by simpa [Addr.add] using World.cell?_spot (h00.trans (show _ = some _ from rfl))
        obtain ⟨b, off, spot⟩ := a
        simp only at hspot
        subst hspot
        have hb : b < W.heap.size := by
          have := World.block_lt_of_cell? W _ (h00.trans (show _ = some _ from rfl))
          simpa [add_mid] using this
        refine ⟨b, off, rfl, hb, fun i x hx => ?_⟩
        rw [List.getElem?_map] at hx
        by_cases hil : i < len
        · rw [List.getElem?_range hil] at hx
          simp at hx
          subst hx
          obtain ⟨A, c, hf, h1, h2, h3, hk⟩ := hfk i hil
          have hk' : ∀ j, j < 6 → W.cell? ⟨b, off + i * 6 + j, none⟩ = ((f i).cells A c)[j]? := fun j hj => by
            have := hk j hj
            rw [add_mid, add_mid] at this
            exact this
          exact ⟨A, c, hf, h1, h2, ⟨hk' 0 (by omega), hk' 1 (by omega), hk' 2 (by omega), hk' 3 (by omega), hk' 4 (by omega), hk' 5 (by omega)⟩, h3⟩
        · rw [List.getElem?_eq_none (by simpa using hil)] at hx
          simp at hx

set_option maxRecDepth 100000 in
theorem open_ex {H : Type} {enc : TypeId × Value → H} {W : World} {base : Nat} {v : Value} {d : DataW H} {p : List MemPlace}
    (hv : Value.okWide Tryz.prog W .any base 29 v) (h : DataW.Trod enc Tryz.prog W 0 (fun _ => true) true 29 v d p) :
    ∃ (e : Ex) (A : Option Addr) (c n : Nat), v = .agg (e.cells A c).toArray ∧ e.fit maxLen ∧ e.l.length ≤ c ∧ c ≤ maxLen ∧ ExS maxLen n W W.heap.size A e.l := by
  obtain ⟨cs, rfl, _⟩ := okWide_struct Tryz.underlying29 hv
  obtain ⟨fuel, hf⟩ := h
  obtain ⟨e, A, c, hcs, h1, h2, h3, h4⟩ := (open_ex_both fuel).1 _ _ hf
  refine ⟨e, A, c, fuel, ?_, h1, h2, h3, h4⟩
  have : cs.toList = e.cells A c := by simpa [Value.cells] using hcs
  rw [← this]

theorem open_cols_t {H : Type} {enc : TypeId × Value → H} {W : World} {fuel : Nat} {cs : List Value} {x : DataW H × List MemPlace}
    (hf : DataW.trod enc Tryz.prog W 0 (fun _ => true) true fuel 22 cs = some x) :
    ∃ (A : Option Addr) (l : List Col) (c : Nat), cs = [.slice A l.length c] ∧ l.length ≤ c ∧ c ≤ maxLen ∧ ColS W W.heap.size A l ∧ ∀ x ∈ l, x.n.length ≤ maxLen := by
  rcases open_slice_fields Tryz.underlying22 Tryz.underlying77 (by kernel_rfl) (by kernel_rfl) hf with ⟨hcs, _⟩ | ⟨a, len0, cap0, m, D, Pl, hcs, _, hl, hm, hmm, _, hi⟩
  · exact ⟨none, [], 0, hcs, Nat.le_refl _, Nat.zero_le _, ColS.nil, fun x hx => by simp at hx⟩
  · simp only [if_true] at hmm
    have key : ∀ i, i < len0 → ∃ x : Col, x.n.length ≤ maxLen ∧ W.cell? (a.add (i * 3 + 0)) = some (.string ⟨x.n.toArray⟩) ∧ W.cell? (a.add (i * 3 + 1)) = some (.int .i64 x.t) ∧ W.cell? (a.add (i * 3 + 2)) = some (.bool x.b) := by
      intro i hilt
      obtain ⟨ys, n, _, _, _, hfield⟩ := hi i (by omega)
      obtain ⟨c0, y0, hc0, _, t0⟩ := hfield 0 _ rfl
      obtain ⟨c1, y1, hc1, _, t1⟩ := hfield 1 _ rfl
      obtain ⟨c2, y2, hc2, _, t2⟩ := hfield 2 _ rfl
      obtain ⟨s, e0, _, w0⟩ := DataW.trod_string Tryz.underlying9 t0
      obtain ⟨k, e1, _, w1⟩ := DataW.trod_int Tryz.underlying3 t1
      obtain ⟨b, e2, _⟩ := DataW.trod_bool Tryz.underlying4 t2
      simp at e0 e1 e2
      subst e0 e1 e2
      exact ⟨⟨s.data.toList, k, b⟩, str_len w0, hc0, hc1, hc2⟩
    have key2 : ∃ f : Nat → Col, ∀ i, i < len0 → (f i).n.length ≤ maxLen ∧ W.cell? (a.add (i * 3 + 0)) = some (.string ⟨(f i).n.toArray⟩) ∧ W.cell? (a.add (i * 3 + 1)) = some (.int .i64 (f i).t) ∧ W.cell? (a.add (i * 3 + 2)) = some (.bool (f i).b) := by
      refine ⟨fun i => if h : i < len0 then (key i h).choose else ⟨[], 0, false⟩, fun i h => ?_⟩
      simp only [h, dite_true]
      exact (key i h).choose_spec
    obtain ⟨f, hfk⟩ := key2
    refine ⟨some a, (List.range len0).map f, cap0, by simpa using hcs, by simpa using hl, hm, ?_, ?_⟩
    · intro hpos
      have h0 := (hfk 0 (by simpa using hpos)).2.1
      have hspot : a.spot = none := by simpa [Addr.add] using World.cell?_spot h0
      obtain ⟨b, off, spot⟩ := a
      simp only at hspot
      subst hspot
      have hb : b < W.heap.size := by
        have := World.block_lt_of_cell? W _ h0
        simpa [add_mid] using this
      refine ⟨b, off, rfl, hb, fun i x hx => ?_⟩
      rw [List.getElem?_map] at hx
      by_cases hil : i < len0
      · rw [List.getElem?_range hil] at hx
        simp at hx
        subst hx
        have hk := (hfk i hil).2
        rw [add_mid, add_mid, add_mid] at hk
        exact hk
      · rw [List.getElem?_eq_none (by simpa using hil)] at hx
        simp at hx
    · intro x hx
      simp only [List.mem_map, List.mem_range] at hx
      obtain ⟨i, hi', rfl⟩ := hx
      exact (hfk i hi').1

set_option maxRecDepth 100000 in
theorem open_cols {H : Type} {enc : TypeId × Value → H} {W : World} {base : Nat} {v : Value} {d : DataW H} {p : List MemPlace}
    (hv : Value.okWide Tryz.prog W .any base 22 v) (h : DataW.Trod enc Tryz.prog W 0 (fun _ => true) true 22 v d p) :
    ∃ (A : Option Addr) (l : List Col) (c : Nat), v = .slice A l.length c ∧ l.length ≤ c ∧ c ≤ maxLen ∧ ColS W W.heap.size A l ∧ ∀ x ∈ l, x.n.length ≤ maxLen := by
  obtain ⟨a0, len0, cap0, rfl⟩ := okWide_slice Tryz.underlying22 hv
  obtain ⟨fuel, hf⟩ := h
  obtain ⟨A, l, c, hcs, h1, h2, h3, h4⟩ := open_cols_t hf
  exact ⟨A, l, c, by simpa [Value.cells] using hcs, h1, h2, h3, h4⟩

end Go.Proofs.YtdhjogmkhbpcgaaGreat

namespace Go.Proofs.YtdhjogmkhbpcgaaGreat
open Go.ChangeShapes Go.WideShapes Go.ChangeAt Go.RowKit Go.Deep Go.Joins

theorem open_vals_t {H : Type} {enc : TypeId × Value → H} {W : World} {fuel : Nat} {cs : List Value} {x : DataW H × List MemPlace}
    (hf : DataW.trod enc Tryz.prog W 0 (fun _ => true) true fuel 43 cs = some x) :
    ∃ (A : Option Addr) (l : List V) (c : Nat), cs = [.slice A l.length c] ∧ l.length ≤ c ∧ c ≤ maxLen ∧ VS W W.heap.size A l ∧ ∀ x ∈ l, x.ok := by
  rcases open_slice_fields Tryz.underlying43 Tryz.underlying26 (by kernel_rfl) (by kernel_rfl) hf with ⟨hcs, _⟩ | ⟨a, len0, cap0, m, D, Pl, hcs, _, hl, hm, hmm, _, hi⟩
  · exact ⟨none, [], 0, hcs, Nat.le_refl _, Nat.zero_le _, VS.nil, fun x hx => by simp at hx⟩
  · simp only [if_true] at hmm
    have key : ∀ i, i < len0 → ∃ x : V, x.ok ∧ W.cell? (a.add (i * 3 + 0)) = some (.int .i64 x.k) ∧ W.cell? (a.add (i * 3 + 1)) = some (.int .i64 x.i) ∧ W.cell? (a.add (i * 3 + 2)) = some (.string ⟨x.s.toArray⟩) := by
      intro i hilt
      obtain ⟨ys, n, _, _, _, hfield⟩ := hi i (by omega)
      obtain ⟨c0, y0, hc0, _, t0⟩ := hfield 0 _ rfl
      obtain ⟨c1, y1, hc1, _, t1⟩ := hfield 1 _ rfl
      obtain ⟨c2, y2, hc2, _, t2⟩ := hfield 2 _ rfl
      obtain ⟨k, e0, _, w0⟩ := DataW.trod_int Tryz.underlying3 t0
      obtain ⟨j, e1, _, w1⟩ := DataW.trod_int Tryz.underlying2 t1
      obtain ⟨s, e2, _, w2⟩ := DataW.trod_string Tryz.underlying9 t2
      simp at e0 e1 e2
      subst e0 e1 e2
      refine ⟨⟨k, j, s.data.toList⟩, ⟨i64_bounds w0, i64_bounds w1, ?_⟩, hc0, hc1, hc2⟩
      have hsz : s.data.toList.length = s.size := by rw [Array.length_toList]; rfl
      show s.data.toList.length ≤ 9223372036854775807
      unfold maxLen at w2
      omega
    have key2 : ∃ f : Nat → V, ∀ i, i < len0 → (f i).ok ∧ W.cell? (a.add (i * 3 + 0)) = some (.int .i64 (f i).k) ∧ W.cell? (a.add (i * 3 + 1)) = some (.int .i64 (f i).i) ∧ W.cell? (a.add (i * 3 + 2)) = some (.string ⟨(f i).s.toArray⟩) := by
      refine ⟨fun i => if h : i < len0 then (key i h).choose else ⟨0, 0, []⟩, fun i h => ?_⟩
      simp only [h, dite_true]
      exact (key i h).choose_spec
    obtain ⟨f, hfk⟩ := key2
    refine ⟨some a, (List.range len0).map f, cap0, by simpa using hcs, by simpa using hl, hm, ?_, ?_⟩
    · intro hpos
      have h0 := (hfk 0 (by simpa using hpos)).2.1
      have hspot : a.spot = none := by simpa [Addr.add] using World.cell?_spot h0
      obtain ⟨b, off, spot⟩ := a
      simp only at hspot
      subst hspot
      have hb : b < W.heap.size := by
        have := World.block_lt_of_cell? W _ h0
        simpa [add_mid] using this
      refine ⟨b, off, rfl, hb, fun i x hx => ?_⟩
      rw [List.getElem?_map] at hx
      by_cases hil : i < len0
      · rw [List.getElem?_range hil] at hx
        simp at hx
        subst hx
        have hk := (hfk i hil).2
        rw [add_mid, add_mid, add_mid] at hk
        exact hk
      · rw [List.getElem?_eq_none (by simpa using hil)] at hx
        simp at hx
    · intro x hx
      simp only [List.mem_map, List.mem_range] at hx
      obtain ⟨i, hi', rfl⟩ := hx
      exact (hfk i hi').1

set_option maxRecDepth 100000 in
theorem open_vals {H : Type} {enc : TypeId × Value → H} {W : World} {base : Nat} {v : Value} {d : DataW H} {p : List MemPlace}
    (hv : Value.okWide Tryz.prog W .any base 43 v) (h : DataW.Trod enc Tryz.prog W 0 (fun _ => true) true 43 v d p) :
    ∃ (A : Option Addr) (l : List V) (c : Nat), v = .slice A l.length c ∧ l.length ≤ c ∧ c ≤ maxLen ∧ VS W W.heap.size A l ∧ ∀ x ∈ l, x.ok := by
  obtain ⟨a0, len0, cap0, rfl⟩ := okWide_slice Tryz.underlying43 hv
  obtain ⟨fuel, hf⟩ := h
  obtain ⟨A, l, c, hcs, h1, h2, h3, h4⟩ := open_vals_t hf
  exact ⟨A, l, c, by simpa [Value.cells] using hcs, h1, h2, h3, h4⟩

end Go.Proofs.YtdhjogmkhbpcgaaGreat

namespace Go.Proofs.YtdhjogmkhbpcgaaGreat
open Go

section
variable {P : Program} {ops : Array Oper} {Q : Exit → Act → World → Prop} {md : Region.Mode} {S : Array Bool → World → Prop} {T : World → Prop}

/-- Whatever order is picked from here on, and S holds behind each operation, of what is listed then. -/
def wpAnyI (P : Program) (md : Region.Mode) (ops : Array Oper) (Q : Exit → Act → World → Prop) (S : Array Bool → World → Prop) : Nat → Array Bool → Act → World → Prop
  | 0, listed, a, w => Region.ready md ops listed = [] ∧ Q .normal a w
  | fuel + 1, listed, a, w =>
    (Region.ready md ops listed = [] → Q .normal a w) ∧
    ∀ i ∈ Region.ready md ops listed, wpOp P ops Q i (fun a' w' => S (listed.setIfInBounds i true) w' ∧ wpAnyI P md ops Q S fuel (listed.setIfInBounds i true) a' w') a w

theorem wpAny_of_I : ∀ (fuel : Nat) (listed : Array Bool) (a : Act) (w : World), wpAnyI P md ops Q S fuel listed a w → wpAny P md ops Q fuel listed a w
  | 0, _, _, _, h => h
  | fuel + 1, _, _, _, h => ⟨h.1, fun i hi => wpOp_mono (fun a' w' h' => wpAny_of_I fuel _ a' w' h'.2) (h.2 i hi)⟩

/-- Operation i is taken first: it yields v wherever T holds, and T holds as long as i is not listed. -/
theorem wpAnyI_first {i : Nat} {oi : Oper} {v : Value} (hi : ops[i]? = some oi) (hsel : ∀ (j : Nat) (o : Oper) cs b, ops[j]? = some o → o.op ≠ .select cs b)
    (hQ : ∀ c a w, Q (.panic c) (a.put oi.dst v) w → Q (.panic c) a w)
    (G : Array Bool → Prop) (hG : ∀ L j, G L → L.getD i true = false → j ∈ Region.ready md ops L → j ≠ i → G (L.setIfInBounds j true))
    (hS : ∀ L w, G L → L.getD i true = false → S L w → T w) (hSi : ∀ L w, S (L.setIfInBounds i true) w → S L w) :
    ∀ (fuel : Nat) (listed : Array Bool) (a : Act) (w : World), G listed →
      (∀ j oj, ops[j]? = some oj → j ≠ i → listed.getD j true = false → (∀ e ∈ oj.after, Region.binds md e = true → e.on ≠ i) → oi.apart ops oj = true) →
      i ∈ Region.ready md ops listed → YieldsIf P ops T oi v a → S listed w → S (listed.setIfInBounds i true) w →
      wpAnyI P md ops Q S fuel (listed.setIfInBounds i true) (a.put oi.dst v) w → wpAnyI P md ops Q S (fuel + 1) listed a w := by
  intro fuel
  induction fuel with
  | zero =>
    intro listed a w hg _ hr hy hS0 hS1 H
    refine ⟨fun h => (by rw [h] at hr; cases hr), fun j hj => ?_⟩
    by_cases hji : j = i
    · subst hji; exact hy.wpOp hi (hS _ _ hg (mem_ready.1 hr).1 hS0) ⟨hS1, H⟩
    · have := ready_mono hj hji
      rw [H.1] at this
      cases this
  | succ fuel ih =>
    intro listed a w hg hfree hr hy hS0 hS1 H
    refine ⟨fun h => (by rw [h] at hr; cases hr), fun j hj => ?_⟩
    by_cases hji : j = i
    · subst hji; exact hy.wpOp hi (hS _ _ hg (mem_ready.1 hr).1 hS0) ⟨hS1, H⟩
    · have h1 := H.2 j (ready_mono hj hji)
      obtain ⟨hjun, oj, hoj, hall⟩ := mem_ready.1 hj
      have hnot : ∀ e ∈ oj.after, Region.binds md e = true → e.on ≠ i := fun e he hb heq => by
        have h1 := hall e he hb
        have h0 := (mem_ready.1 hr).1
        rw [heq] at h1
        rcases Nat.lt_or_ge i listed.size with h' | h'
        · simp [h'] at h0 h1; rw [h0] at h1; cases h1
        · simp [Array.getElem?_eq_none h'] at h1
      have h2 := wpOp_putIf hoj (hfree j oj hoj hji hjun hnot) (fun cs b => hsel i oi cs b hi) (fun cs b => hsel j oj cs b hoj) hQ hy h1
      have hfree' : ∀ k ok, ops[k]? = some ok → k ≠ i → (listed.setIfInBounds j true).getD k true = false →
          (∀ e ∈ ok.after, Region.binds md e = true → e.on ≠ i) → oi.apart ops ok = true := fun k ok hk hki hun hno => by
        refine hfree k ok hk hki ?_ hno
        by_cases hjk : j = k
        · subst hjk; exact hjun
        · rw [getD_set_ne true hjk] at hun; exact hun
      refine wpOp_mono (fun a' w' h3 => ?_) h2
      obtain ⟨h4, h5, h6⟩ := h3
      rw [Array.setIfInBounds_comm _ _ (Ne.symm hji)] at h5 h6
      exact ⟨hSi _ _ h5, ih (listed.setIfInBounds j true) a' w' (hG _ _ hg (mem_ready.1 hr).1 hj hji) hfree' (ready_mono hr (Ne.symm hji)) h4 (hSi _ _ h5) h5 h6⟩

/-- As long as one of these is not listed, T holds. -/
def Till (cs : List Nat) (T : World → Prop) (L : Array Bool) (w : World) : Prop := (∃ c ∈ cs, L.getD c true = false) → T w

theorem Till.of_set {cs : List Nat} {i : Nat} (h : i ∉ cs) {L : Array Bool} {w : World} (hs : Till cs T (L.setIfInBounds i true) w) : Till cs T L w := fun ⟨c, hc, hL⟩ => by
  refine hs ⟨c, hc, ?_⟩
  rw [getD_set_ne true (fun e => h (by rw [e]; exact hc))]
  exact hL
theorem Till.set {cs : List Nat} {i : Nat} {L : Array Bool} {w : World} (hs : Till cs T L w) : Till cs T (L.setIfInBounds i true) w := fun ⟨c, hc, hL⟩ => by
  refine hs ⟨c, hc, ?_⟩
  by_cases h : i = c
  · subst h
    rcases Nat.lt_or_ge i L.size with h1 | h1
    · simp [Array.getD, h1] at hL
    · simp [Array.getD, Nat.not_lt.2 h1] at hL
  · rw [getD_set_ne true h] at hL
    exact hL
/-- Each of these waits for the one ahead of it, the first one for i. -/
def pathOk (md : Region.Mode) (ops : Array Oper) : Nat → List Nat → Bool
  | _, [] => true
  | i, p :: r => (match ops[p]? with | some o => o.after.any fun e => Region.binds md e && e.on == i | none => false) && pathOk md ops p r
theorem path_not {L : Array Bool} {j : Nat} (hj : j ∈ Region.ready md ops L) : ∀ (ps : List Nat) (i : Nat), pathOk md ops i ps = true → L.getD i true = false → (∀ p ∈ ps, L.getD p true = false) → j ∉ ps
  | [], _, _, _, _ => by simp
  | p :: r, i, hp, hi, hu => by
    unfold pathOk at hp
    simp only [Bool.and_eq_true] at hp
    have hup := hu p (by simp)
    have ih := path_not hj r p hp.2 hup (fun q hq => hu q (by simp [hq]))
    intro hm
    rcases List.mem_cons.1 hm with h | h
    · subst h
      obtain ⟨_, oj, hoj, hall⟩ := mem_ready.1 hj
      have h1 := hp.1
      rw [hoj] at h1
      simp only at h1
      obtain ⟨e, hem, heb⟩ := Array.any_eq_true'.1 h1
      simp only [Bool.and_eq_true, beq_iff_eq] at heb
      have h2 := hall e hem heb.1
      rw [heb.2] at h2
      rcases Nat.lt_or_ge i L.size with h' | h'
      · simp [h'] at hi h2; rw [hi] at h2; cases h2
      · simp [Array.getElem?_eq_none h'] at h2
    · exact ih h
/-- A read that an operation of cs waits for, through those of ps. -/
theorem wpAnyI_take {cs : List Nat} {i : Nat} (c : Nat) (ps : List Nat) {oi : Oper} {v : Value} {fuel : Nat} {listed : Array Bool} {a : Act} {w : World} (hi : ops[i]? = some oi) (hc : c ∈ cs) (hcp : c ∈ ps) (hic : i ∉ cs) (hpath : pathOk md ops i ps = true) (hcl : (ps.all fun p => !listed.getD p true) = true)
    (hs : Region.noSelect ops = true) (hf : Region.free md ops listed i = true) (hr : (Region.ready md ops listed).contains i = true)
    (hQ : ∀ c a w, Q (.panic c) (a.put oi.dst v) w → Q (.panic c) a w) (hy : YieldsIf P ops T oi v a) (hT : T w)
    (h : wpAnyI P md ops Q (Till cs T) fuel (listed.setIfInBounds i true) (a.put oi.dst v) w) : wpAnyI P md ops Q (Till cs T) (fuel + 1) listed a w := by
  refine wpAnyI_first hi (Region.noSelect_spec hs) hQ (fun L => ∀ p ∈ ps, L.getD p true = false) (fun L j hg hu hj hji => ?_) (fun L w hg _ hS => hS ⟨c, hc, hg c hcp⟩) (fun L w => Till.of_set hic) fuel listed a w
    (fun p hp => by have := List.all_eq_true.1 hcl p hp; simpa using this) (Region.free_spec hi hf) (by simpa using hr) hy (fun _ => hT) (fun _ => hT) h
  have hn := path_not hj ps i hpath hu hg
  intro p hp
  show (L.setIfInBounds j true).getD p true = false
  rw [getD_set_ne true (fun e => hn (by rw [e]; exact hp))]
  exact hg p hp
/-- What yields in whatever world. -/
theorem wpAnyI_take0 {cs : List Nat} {i : Nat} {oi : Oper} {v : Value} {fuel : Nat} {listed : Array Bool} {a : Act} {w : World} (hi : ops[i]? = some oi) (hic : i ∉ cs)
    (hs : Region.noSelect ops = true) (hf : Region.free md ops listed i = true) (hr : (Region.ready md ops listed).contains i = true)
    (hQ : ∀ c a w, Q (.panic c) (a.put oi.dst v) w → Q (.panic c) a w) (hy : YieldsIf P ops (fun _ => True) oi v a) (hS : Till cs T listed w)
    (h : wpAnyI P md ops Q (Till cs T) fuel (listed.setIfInBounds i true) (a.put oi.dst v) w) : wpAnyI P md ops Q (Till cs T) (fuel + 1) listed a w :=
  wpAnyI_first hi (Region.noSelect_spec hs) hQ (fun _ => True) (fun _ _ _ _ _ _ => trivial) (fun _ _ _ _ _ => trivial) (fun L w => Till.of_set hic) fuel listed a w trivial (Region.free_spec hi hf) (by simpa using hr) hy hS hS.set h
def AllReadyI (P : Program) (md : Region.Mode) (ops : Array Oper) (Q : Exit → Act → World → Prop) (S : Array Bool → World → Prop) (fuel : Nat) (listed : Array Bool) (a : Act) (w : World) (rs : List Nat) : Prop :=
  ∀ i ∈ rs, wpOp P ops Q i (fun a' w' => S (listed.setIfInBounds i true) w' ∧ wpAnyI P md ops Q S fuel (listed.setIfInBounds i true) a' w') a w
theorem AllReadyI.nil {fuel : Nat} {listed : Array Bool} {a : Act} {w : World} : AllReadyI P md ops Q S fuel listed a w [] := fun _ h => by cases h
theorem AllReadyI.cons {fuel : Nat} {listed : Array Bool} {a : Act} {w : World} {i : Nat} {o : Oper} {rs : List Nat} (ho : ops[i]? = some o)
    (h : ∀ K' : Act → World → Prop, Shut (∀ a w, S (listed.setIfInBounds i true) w → (S (listed.setIfInBounds i true) w → wpAnyI P md ops Q S fuel (listed.setIfInBounds i true) a w) → K' a w) → if Region.wanted o (yielded ops a.tmps) = true then Oper.wp P o a w K' Q else K' (a.put o.dst undef) w)
    (hs : AllReadyI P md ops Q S fuel listed a w rs) : AllReadyI P md ops Q S fuel listed a w (i :: rs) := fun j hj => by
  rcases List.mem_cons.1 hj with rfl | hj
  · exact wpOp_step ho (fun K' hK => h K' (fun a w hS hW => hK a w ⟨hS, hW hS⟩))
  · exact hs j hj
theorem AllReadyI.consT {cs : List Nat} {fuel : Nat} {listed : Array Bool} {a : Act} {w : World} {i : Nat} {o : Oper} {rs : List Nat} (ho : ops[i]? = some o)
    (h : ∀ K' : Act → World → Prop, Shut (∀ a w, T w → (T w → wpAnyI P md ops Q (Till cs T) fuel (listed.setIfInBounds i true) a w) → K' a w) → if Region.wanted o (yielded ops a.tmps) = true then Oper.wp P o a w K' Q else K' (a.put o.dst undef) w)
    (hs : AllReadyI P md ops Q (Till cs T) fuel listed a w rs) : AllReadyI P md ops Q (Till cs T) fuel listed a w (i :: rs) :=
  .cons ho (fun K' hK => h K' (fun a w hT hW => hK.out a w (fun _ => hT) (fun _ => hW hT))) hs
theorem AllReadyI.consD {cs : List Nat} {fuel : Nat} {listed : Array Bool} {a : Act} {w : World} {i : Nat} {o : Oper} {rs : List Nat} (ho : ops[i]? = some o) (hd : (cs.all fun c => (listed.setIfInBounds i true).getD c true) = true)
    (h : ∀ K' : Act → World → Prop, Shut (∀ a w, wpAnyI P md ops Q (Till cs T) fuel (listed.setIfInBounds i true) a w → K' a w) → if Region.wanted o (yielded ops a.tmps) = true then Oper.wp P o a w K' Q else K' (a.put o.dst undef) w)
    (hs : AllReadyI P md ops Q (Till cs T) fuel listed a w rs) : AllReadyI P md ops Q (Till cs T) fuel listed a w (i :: rs) :=
  .cons ho (fun K' hK => h K' (fun a w hW => hK.out a w (fun ⟨c, hc, hL⟩ => by have := List.all_eq_true.1 hd c hc; rw [hL] at this; cases this) (fun _ => hW))) hs
theorem wpAnyI_ready {rs : List Nat} {fuel : Nat} {listed : Array Bool} {a : Act} {w : World} (hr : Region.ready md ops listed = rs) (hne : rs ≠ [])
    (h : AllReadyI P md ops Q S fuel listed a w rs) : wpAnyI P md ops Q S (fuel + 1) listed a w := ⟨fun h0 => absurd (hr ▸ h0) hne, hr ▸ h⟩
theorem wpAnyI_done {listed : Array Bool} {a : Act} {w : World} (hr : Region.ready md ops listed = []) (h : Q .normal a w) : ∀ fuel, wpAnyI P md ops Q S fuel listed a w
  | 0 => ⟨hr, h⟩
  | _ + 1 => ⟨fun _ => h, by rw [hr]; simp⟩
theorem wp_region_till {id : Nat} {a : Act} {w : World} (cs : List Nat) (T : World → Prop) (hm : P.follows .mixedOrders = true) (hS : T w.drew)
    (h : T w.drew → wpAnyI P .any ops Q (Till cs T) ops.size (Array.replicate ops.size false) a w.drew) : (Code.region id ops true).wp P Q a w :=
  wp_region_any hm (wpAny_of_I _ _ _ _ (h hS))
end

end Go.Proofs.YtdhjogmkhbpcgaaGreat

namespace Go.Proofs.YtdhjogmkhbpcgaaGreat
open Go.ChangeShapes Go.WideShapes Go.ChangeAt Go.RowKit Go.Deep Go.Joins

theorem cells1i : Tryz.prog.cellsOf 3 = 1 := by kernel_rfl
theorem cells1c : Tryz.prog.cellsOf 22 = 1 := by kernel_rfl
theorem cells1n : Tryz.prog.cellsOf 23 = 1 := by kernel_rfl
theorem cells1f : Tryz.prog.cellsOf 24 = 1 := by kernel_rfl
theorem cells1v : Tryz.prog.cellsOf 43 = 1 := by kernel_rfl
theorem cells1r : Tryz.prog.cellsOf 32 = 1 := by kernel_rfl
theorem cellsT : Tryz.prog.cellsOf 31 = 11 := by kernel_rfl
theorem cellsRl : Tryz.prog.cellsOf 34 = 12 := by kernel_rfl
theorem ColS.q {w : World} {B : Nat} {A : Option Addr} {l : List Col} (h : ColS w B A l) : CQ l A (Old B) w := h
theorem VS.q {w : World} {B : Nat} {A : Option Addr} {l : List V} (h : VS w B A l) : WQ l A (Old B) w := h

/-- A slice whose things take one cell each. -/
theorem open_ones {H : Type} {enc : TypeId × Value → H} {W : World} {fuel : Nat} {t e : TypeId} {cs : List Value} {x : DataW H × List MemPlace} {α : Type} (z : α) (G : α → Value → Prop)
    (ht : Tryz.prog.underlying t = some (.slice e)) (h1 : Tryz.prog.cellsOf e = 1)
    (hG : ∀ (f : Nat) (v : Value) (y : DataW H × List MemPlace), DataW.trod enc Tryz.prog W 0 (fun _ => true) true f e [v] = some y → ∃ a, G a v)
    (h : DataW.trod enc Tryz.prog W 0 (fun _ => true) true fuel t cs = some x) :
    ∃ (A : Option Addr) (l : List α) (c : Nat), cs = [.slice A l.length c] ∧ l.length ≤ c ∧ c ≤ maxLen ∧ (0 < l.length → ∃ b off, A = some ⟨b, off, none⟩ ∧ b < W.heap.size ∧ ∀ i a, l[i]? = some a → ∃ v, W.cell? ⟨b, off + i, none⟩ = some v ∧ G a v) := by
  rcases DataW.trod_slice ht h with ⟨rfl, _⟩ | ⟨a, len, cap, elems, rest, n', hn, rfl, _, _, hl, hm, hlen, hel, _, _⟩
  · exact ⟨none, [], 0, rfl, Nat.le_refl _, Nat.zero_le _, fun h => absurd h (by simp)⟩
  · rw [h1] at hel
    have key : ∀ i, i < len → ∃ (g : α) (v : Value), W.cell? (a.add (i * 1)) = some v ∧ G g v := by
      intro i hi
      have hb := hel i hi
      rw [List.getElem?_eq_getElem (by omega)] at hb
      obtain ⟨cs', hc, ht'⟩ := Option.bind_eq_some_iff.1 hb
      obtain ⟨_, hcl, hat⟩ := World.cells?_some hc
      match cs', hcl with
      | [v], _ =>
        obtain ⟨g, hg⟩ := hG _ _ _ ht'
        refine ⟨g, v, ?_, hg⟩
        have := hat 0 (by omega)
        have e : (a.add (i * 1)).add 0 = a.add (i * 1) := by obtain ⟨b, o, s⟩ := a; cases s <;> simp [Addr.add]
        rw [e] at this
        exact this
    have key2 : ∃ f : Nat → α, ∀ i, i < len → ∃ v, W.cell? (a.add (i * 1)) = some v ∧ G (f i) v := by
      refine ⟨fun i => if h : i < len then (key i h).choose else z, fun i h => ?_⟩
      simp only [h, dite_true]
      exact (key i h).choose_spec
    obtain ⟨f, hfk⟩ := key2
    refine ⟨some a, (List.range len).map f, cap, by simp, by simpa using hl, hm, ?_⟩
    intro hpos
    obtain ⟨v0, h00, _⟩ := hfk 0 (by simpa using hpos)
    have hspot : a.spot = none := by simpa [Addr.add] using World.cell?_spot h00
    obtain ⟨b, off, spot⟩ := a
    simp only at hspot
    subst hspot
    have hb : b < W.heap.size := by
      have := World.block_lt_of_cell? W _ h00
      simpa [add_mid] using this
    refine ⟨b, off, rfl, hb, fun i x hx => ?_⟩
    rw [List.getElem?_map] at hx
    by_cases hil : i < len
    · rw [List.getElem?_range hil] at hx
      simp at hx
      subst hx
      obtain ⟨v, hv, hg⟩ := hfk i hil
      rw [add_mid, Nat.mul_one] at hv
      exact ⟨v, hv, hg⟩
    · rw [List.getElem?_eq_none (by simpa using hil)] at hx
      simp at hx

theorem open_nums_t {H : Type} {enc : TypeId × Value → H} {W : World} {fuel : Nat} {cs : List Value} {x : DataW H × List MemPlace} (hf : DataW.trod enc Tryz.prog W 0 (fun _ => true) true fuel 23 cs = some x) :
    ∃ (A : Option Addr) (l : List Int) (c : Nat), cs = [.slice A l.length c] ∧ l.length ≤ c ∧ c ≤ maxLen ∧ IQ l A (Old W.heap.size) W := by
  obtain ⟨A, l, c, h1, h2, h3, h4⟩ := open_ones (0 : Int) (fun n v => v = .int .i64 n) Tryz.underlying23 cells1i (fun f v y h => by
    obtain ⟨k, e, _, _⟩ := DataW.trod_int Tryz.underlying3 h
    simp at e
    exact ⟨k, e⟩) hf
  refine ⟨A, l, c, h1, h2, h3, fun hl => ?_⟩
  obtain ⟨b, off, rfl, hb, hr⟩ := h4 hl
  refine ⟨b, off, rfl, hb, fun i n hn => ?_⟩
  obtain ⟨v, hv, rfl⟩ := hr i n hn
  exact hv
theorem open_rows_t {H : Type} {enc : TypeId × Value → H} {W : World} {fuel : Nat} {cs : List Value} {x : DataW H × List MemPlace} (hf : DataW.trod enc Tryz.prog W 0 (fun _ => true) true fuel 32 cs = some x) :
    ∃ (A : Option Addr) (l : List (List V)) (c : Nat), cs = [.slice A l.length c] ∧ l.length ≤ c ∧ c ≤ maxLen ∧ RQ l A (Old W.heap.size) W ∧ ∀ r ∈ l, r.length ≤ maxLen ∧ ∀ v ∈ r, v.ok := by
  obtain ⟨A, l, c, h1, h2, h3, h4⟩ := open_ones ([] : List V) (fun r v => ∃ A' c', v = .slice A' r.length c' ∧ (r.length ≤ maxLen ∧ ∀ x ∈ r, x.ok) ∧ WQ r A' (Old W.heap.size) W) Tryz.underlying32 cells1v (fun f v y h => by
    obtain ⟨A', r, c', e, g1, g2, g3, g4⟩ := open_vals_t h
    simp at e
    exact ⟨r, A', c', e, ⟨Nat.le_trans g1 g2, g4⟩, g3⟩) hf
  refine ⟨A, l, c, h1, h2, h3, fun hl => ?_, fun r hr => ?_⟩
  · obtain ⟨b, off, rfl, hb, hr⟩ := h4 hl
    refine ⟨b, off, rfl, hb, fun i r hn => ?_⟩
    obtain ⟨v, hv, A', c', rfl, _, hw⟩ := hr i r hn
    exact ⟨A', c', hv, hw⟩
  · obtain ⟨i, hi⟩ := List.mem_iff_getElem?.1 hr
    have hpos : 0 < l.length := by
      have := (List.getElem?_eq_some_iff.1 hi).1
      omega
    obtain ⟨b, off, _, _, hrr⟩ := h4 hpos
    obtain ⟨v, _, A', c', _, ho, _⟩ := hrr i r hi
    exact ho

theorem open_frs_t {H : Type} {enc : TypeId × Value → H} {W : World} {fuel : Nat} {cs : List Value} {x : DataW H × List MemPlace} (hf : DataW.trod enc Tryz.prog W 0 (fun _ => true) true fuel 24 cs = some x) :
    ∃ (A : Option Addr) (l : List Fr) (c : Nat), cs = [.slice A l.length c] ∧ l.length ≤ c ∧ c ≤ maxLen ∧ FQ l A (Old W.heap.size) W ∧ ∀ f ∈ l, f.t.length ≤ maxLen := by
  rcases open_slice_fields Tryz.underlying24 Tryz.underlying80 (by kernel_rfl) (by kernel_rfl) hf with ⟨hcs, _⟩ | ⟨a, len0, cap0, m, D, Pl, hcs, _, hl, hm, hmm, _, hi⟩
  · exact ⟨none, [], 0, hcs, Nat.le_refl _, Nat.zero_le _, FQ.nil, fun x hx => by simp at hx⟩
  · simp only [if_true] at hmm
    have key : ∀ i, i < len0 → ∃ x : Fr, x.t.length ≤ maxLen ∧ W.cell? (a.add (i * 2 + 0)) = some (.int .i64 x.c) ∧ W.cell? (a.add (i * 2 + 1)) = some (.string ⟨x.t.toArray⟩) := by
      intro i hilt
      obtain ⟨ys, n, _, _, _, hfield⟩ := hi i (by omega)
      obtain ⟨c0, y0, hc0, _, t0⟩ := hfield 0 _ rfl
      obtain ⟨c1, y1, hc1, _, t1⟩ := hfield 1 _ rfl
      obtain ⟨k, e0, _, w0⟩ := DataW.trod_int Tryz.underlying3 t0
      obtain ⟨s, e1, _, w1⟩ := DataW.trod_string Tryz.underlying9 t1
      simp at e0 e1
      subst e0 e1
      exact ⟨⟨k, s.data.toList⟩, str_len w1, hc0, hc1⟩
    have key2 : ∃ f : Nat → Fr, ∀ i, i < len0 → (f i).t.length ≤ maxLen ∧ W.cell? (a.add (i * 2 + 0)) = some (.int .i64 (f i).c) ∧ W.cell? (a.add (i * 2 + 1)) = some (.string ⟨(f i).t.toArray⟩) := by
      refine ⟨fun i => if h : i < len0 then (key i h).choose else ⟨0, []⟩, fun i h => ?_⟩
      simp only [h, dite_true]
      exact (key i h).choose_spec
    obtain ⟨f, hfk⟩ := key2
    refine ⟨some a, (List.range len0).map f, cap0, by simpa using hcs, by simpa using hl, hm, ?_, ?_⟩
    · intro hpos
      have h0 := (hfk 0 (by simpa using hpos)).2.1
      have hspot : a.spot = none := by simpa [Addr.add] using World.cell?_spot h0
      obtain ⟨b, off, spot⟩ := a
      simp only at hspot
      subst hspot
      have hb : b < W.heap.size := by
        have := World.block_lt_of_cell? W _ h0
        simpa [add_mid] using this
      refine ⟨b, off, rfl, hb, fun i x hx => ?_⟩
      rw [List.getElem?_map] at hx
      by_cases hil : i < len0
      · rw [List.getElem?_range hil] at hx
        simp at hx
        subst hx
        have hk := (hfk i hil).2
        rw [add_mid, add_mid] at hk
        exact hk
      · rw [List.getElem?_eq_none (by simpa using hil)] at hx
        simp at hx
    · intro x hx
      simp only [List.mem_map, List.mem_range] at hx
      obtain ⟨i, hi', rfl⟩ := hx
      exact (hfk i hi').1

set_option maxRecDepth 100000 in
theorem open_tb_t {H : Type} {enc : TypeId × Value → H} {W : World} {fuel : Nat} {cs : List Value} {x : DataW H × List MemPlace} (hf : DataW.trod enc Tryz.prog W 0 (fun _ => true) true fuel 31 cs = some x) :
    ∃ (t : Tb) (p : TbP), cs = t.cells p ∧ t.big ∧ TbQ maxLen t p (Old W.heap.size) W := by
  obtain ⟨ys, n, _, _, hcl, hlen, hg⟩ := DataW.trod_struct Tryz.underlying31 hf
  rw [cellsT] at hcl
  match cs, hcl with
  | [c0, c1, c2, c3, c4, c5, c6, c7, c8, c9, c10], _ =>
    match ys, hlen with
    | [y0, y1, y2, y3, y4, y5], _ =>
      have t0 : DataW.trod enc Tryz.prog W 0 (fun _ => true) true n 9 (([c0, c1, c2, c3, c4, c5, c6, c7, c8, c9, c10].drop 0).take (Tryz.prog.cellsOf 9)) = some y0 := hg 0 _ rfl
      have t1 : DataW.trod enc Tryz.prog W 0 (fun _ => true) true n 22 (([c0, c1, c2, c3, c4, c5, c6, c7, c8, c9, c10].drop 1).take (Tryz.prog.cellsOf 22)) = some y1 := hg 1 _ rfl
      have t2 : DataW.trod enc Tryz.prog W 0 (fun _ => true) true n 3 (([c0, c1, c2, c3, c4, c5, c6, c7, c8, c9, c10].drop 2).take (Tryz.prog.cellsOf 3)) = some y2 := hg 2 _ rfl
      have t3 : DataW.trod enc Tryz.prog W 0 (fun _ => true) true n 23 (([c0, c1, c2, c3, c4, c5, c6, c7, c8, c9, c10].drop 3).take (Tryz.prog.cellsOf 23)) = some y3 := hg 3 _ rfl
      have t4 : DataW.trod enc Tryz.prog W 0 (fun _ => true) true n 24 (([c0, c1, c2, c3, c4, c5, c6, c7, c8, c9, c10].drop 4).take (Tryz.prog.cellsOf 24)) = some y4 := hg 4 _ rfl
      have t5 : DataW.trod enc Tryz.prog W 0 (fun _ => true) true n 29 (([c0, c1, c2, c3, c4, c5, c6, c7, c8, c9, c10].drop 5).take (Tryz.prog.cellsOf 29)) = some y5 := hg 5 _ rfl
      rw [cells1s] at t0
      rw [cells1c] at t1
      rw [cells1i] at t2
      rw [cells1n] at t3
      rw [cells1f] at t4
      rw [cellsE] at t5
      obtain ⟨s, e0, _, w0⟩ := DataW.trod_string Tryz.underlying9 t0
      obtain ⟨A1, cols, k1, e1, g1, g2, g3, g4⟩ := open_cols_t t1
      obtain ⟨key, e2, _, _⟩ := DataW.trod_int Tryz.underlying3 t2
      obtain ⟨A2, uq, k2, e3, u1, u2, u3⟩ := open_nums_t t3
      obtain ⟨A3, rf, k3, e4, r1, r2, r3, r4⟩ := open_frs_t t4
      obtain ⟨e, A4, k4, e5, f1, f2, f3, f4⟩ := (open_ex_both n).1 _ _ t5
      simp at e0 e1 e2 e3 e4
      subst e0 e1 e2 e3 e4
      refine ⟨⟨s.data.toList, cols, key, uq, rf, e⟩, ⟨⟨A1, k1⟩, ⟨A2, k2⟩, ⟨A3, k3⟩, ⟨A4, k4⟩⟩, ?_, ⟨str_len w0, Nat.le_trans g1 g2, g4, Nat.le_trans u1 u2, Nat.le_trans r1 r2, r4, f1, Nat.le_trans f2 f3⟩, ⟨g3.q, u3, r3, n, f4.toQ n⟩⟩
      have e5' : [c5, c6, c7, c8, c9, c10] = e.cells A4 k4 := e5
      simp only [Ex.cells, List.cons.injEq, and_true] at e5'
      obtain ⟨rfl, rfl, rfl, rfl, rfl, rfl⟩ := e5'
      rfl

set_option maxRecDepth 100000 in
theorem open_rl_t {H : Type} {enc : TypeId × Value → H} {W : World} {fuel : Nat} {cs : List Value} {x : DataW H × List MemPlace} (hf : DataW.trod enc Tryz.prog W 0 (fun _ => true) true fuel 34 cs = some x) :
    ∃ (x : Rl) (p : RlP), cs = x.cells p ∧ x.big ∧ RlQ maxLen x p (Old W.heap.size) W := by
  obtain ⟨ys, n, _, _, hcl, hlen, hg⟩ := DataW.trod_struct Tryz.underlying34 hf
  rw [cellsRl] at hcl
  match cs, hcl with
  | [c0, c1, c2, c3, c4, c5, c6, c7, c8, c9, c10, c11], _ =>
    match ys, hlen with
    | [y0, y1], _ =>
      have t0 : DataW.trod enc Tryz.prog W 0 (fun _ => true) true n 31 (([c0, c1, c2, c3, c4, c5, c6, c7, c8, c9, c10, c11].drop 0).take (Tryz.prog.cellsOf 31)) = some y0 := hg 0 _ rfl
      have t1 : DataW.trod enc Tryz.prog W 0 (fun _ => true) true n 32 (([c0, c1, c2, c3, c4, c5, c6, c7, c8, c9, c10, c11].drop 11).take (Tryz.prog.cellsOf 32)) = some y1 := hg 1 _ rfl
      rw [cellsT] at t0
      rw [cells1r] at t1
      obtain ⟨t, p, e0, hb, hq⟩ := open_tb_t t0
      obtain ⟨A5, rows, k5, e1, r1, r2, r3, r4⟩ := open_rows_t t1
      simp at e1
      subst e1
      obtain ⟨b1, b2, b3, b4, b5, b6, b7, b8⟩ := hb
      refine ⟨⟨t, rows⟩, ⟨p, ⟨A5, k5⟩⟩, ?_, ⟨b1, b2, b3, b4, b5, b6, b7, b8, Nat.le_trans r1 r2, fun r hr => ⟨(r4 r hr).1, fun v hv => ((r4 r hr).2 v hv).2.1⟩⟩, ⟨hq, r3⟩⟩
      have e0' : [c0, c1, c2, c3, c4, c5, c6, c7, c8, c9, c10] = t.cells p := e0
      simp only [Tb.cells, List.cons.injEq, and_true] at e0'
      obtain ⟨rfl, rfl, rfl, rfl, rfl, rfl, rfl, rfl, rfl, rfl, rfl⟩ := e0'
      rfl
set_option maxRecDepth 100000 in
theorem open_rl {H : Type} {enc : TypeId × Value → H} {W : World} {base : Nat} {v : Value} {d : DataW H} {p : List MemPlace}
    (hv : Value.okWide Tryz.prog W .any base 34 v) (h : DataW.Trod enc Tryz.prog W 0 (fun _ => true) true 34 v d p) :
    ∃ (x : Rl) (q : RlP), v = .agg (x.cells q).toArray ∧ x.big ∧ RlQ maxLen x q (Old W.heap.size) W := by
  obtain ⟨cs, rfl, _⟩ := okWide_struct Tryz.underlying34 hv
  obtain ⟨fuel, hf⟩ := h
  obtain ⟨x, q, hcs, h1, h2⟩ := open_rl_t hf
  refine ⟨x, q, ?_, h1, h2⟩
  have : cs.toList = x.cells q := by simpa [Value.cells] using hcs
  rw [← this]

end Go.Proofs.YtdhjogmkhbpcgaaGreat
