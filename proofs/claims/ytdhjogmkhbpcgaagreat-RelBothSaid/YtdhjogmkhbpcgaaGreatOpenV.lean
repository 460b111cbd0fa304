/- How arguments of the laws are opened: a value. -/
import Derived.Test.YtdhjogmkhbpcgaaGreatRows
import Derived.Test.YtdhjogmkhbpcgaaGreatBase
import Derived.Lib.SmallJoins
import Derived.OpenShut
import Derived.ShutString
import Derived.ChangeOld
namespace Go.Proofs.YtdhjogmkhbpcgaaGreat
open Go.ChangeShapes Go.WideShapes Go.ChangeAt Go.RowKit Go.Deep Go.Joins

theorem own : ownKnob Tryz.prog.godebug = none := by kernel_rfl
theorem laidOut : laidOutB Tryz.prog = true := by kernel_rfl

section
variable {H : Type} {enc : TypeId × Value → H} {P : Program} {w : World} {base : Nat} {spare : Nat → Bool} {held : Bool}
theorem open_slice_fields {t e : TypeId} {fs : Array Field} {fuel : Nat} {cs : List Value} {x : DataW H × List MemPlace} (ht : P.underlying t = some (.slice e)) (he : P.underlying e = some (.struct fs))
    (hone : oneCellFields P fs = true) (hC : P.cellsOf e = fs.size) (h : DataW.trod enc P w base spare held fuel t cs = some x) :
    (cs = [.slice none 0 0] ∧ x = (.nil, [])) ∨
    ∃ (a : Addr) (len cap m : Nat) (D : Nat → DataW H) (Pl : Nat → List MemPlace), cs = [.slice (some a) len cap] ∧ base ≤ a.block ∧ len ≤ cap ∧ cap ≤ maxLen ∧ m = (if spare a.block then cap else len) ∧
      x = (.slice ((List.range len).map D) ((List.range (m - len)).map fun j => D (len + j)), MemPlace.row a (m * fs.size) ++ (List.range m).flatMap Pl) ∧
      ∀ i, i < m → ∃ (ys : List (DataW H × List MemPlace)) (n : Nat), D i = .agg (ys.map (·.1)) ∧ Pl i = ys.flatMap (·.2) ∧ ys.length = fs.size ∧
        ∀ (j : Nat) (f : Field), fs[j]? = some f → ∃ (v : Value) (y : DataW H × List MemPlace), w.cell? (a.add (i * fs.size + j)) = some v ∧ ys[j]? = some y ∧ DataW.trod enc P w base spare held n f.type [v] = some y := by
  rcases open_slice ht h with h0 | ⟨a, len, cap, m, n, D, Pl, hcs, hb, hl, hm, hmm, hx, hi⟩
  · exact .inl h0
  · refine .inr ⟨a, len, cap, m, D, Pl, hcs, hb, hl, hm, hmm, by rw [hC] at hx; exact hx, fun i him => ?_⟩
    obtain ⟨cs', hc, ht'⟩ := hi i him
    rw [hC] at hc
    obtain ⟨ys, n', hn', hy, hlen, hyl, hf⟩ := DataW.trod_struct he ht'
    obtain ⟨_, hcl, hat⟩ := World.cells?_some hc
    simp only [Prod.mk.injEq] at hy
    refine ⟨ys, n', hy.1, hy.2, hyl, fun j f hj => ?_⟩
    obtain ⟨ho, hk⟩ := hone_of hone j f hj
    have hjl : j < fs.size := (Array.getElem?_eq_some_iff.1 hj).1
    have hcell := hat j hjl
    have hv : cs'[j]? = some (cs'[j]'(by omega)) := List.getElem?_eq_getElem (by omega)
    have h1 := hf j f hj
    rw [ho, hk] at h1
    have hone' : (cs'.drop j).take 1 = [cs'[j]'(by omega)] := by
      rw [List.drop_eq_getElem_cons (by omega)]
      rfl
    rw [hone'] at h1
    have hys : ys[j]? = some (ys[j]'(by omega)) := List.getElem?_eq_getElem (by omega)
    refine ⟨_, _, ?_, hys, h1.trans hys⟩
    rw [← Go.Deep.add_add, hcell, hv]
end

/-- A number of 64 bits, and a text that a length counts. -/
def V.ok (v : V) : Prop := (-9223372036854775808 ≤ v.k ∧ v.k ≤ 9223372036854775807) ∧ (-9223372036854775808 ≤ v.i ∧ v.i ≤ 9223372036854775807) ∧ v.s.length ≤ 9223372036854775807

theorem i64_bounds {n : Int} (h : (Lit.int .i64 n).wf = true) : -9223372036854775808 ≤ n ∧ n ≤ 9223372036854775807 := by
  simpa [Lit.wf, IntKind.min, IntKind.max, IntKind.signed, IntKind.bits] using h

/-- Three cells that read as a value. -/
theorem open_val_t {H : Type} {enc : TypeId × Value → H} {W : World} {fuel : Nat} {c0 c1 c2 : Value} {x : DataW H × List MemPlace}
    (hf : DataW.trod enc Tryz.prog W 0 (fun _ => true) true fuel 26 [c0, c1, c2] = some x) :
    ∃ x : V, c0 = .int .i64 x.k ∧ c1 = .int .i64 x.i ∧ c2 = .string ⟨x.s.toArray⟩ ∧ x.ok := by
  obtain ⟨ys, n, _, _, _, hlen, hg⟩ := DataW.trod_struct Tryz.underlying26 hf
  match ys, hlen with
  | [y0, y1, y2], _ =>
    have s0 : Tryz.prog.cellsOf 3 = 1 := by kernel_rfl
    have s1 : Tryz.prog.cellsOf 2 = 1 := by kernel_rfl
    have s2 : Tryz.prog.cellsOf 9 = 1 := by kernel_rfl
    have t0 : DataW.trod enc Tryz.prog W 0 (fun _ => true) true n 3 (([c0, c1, c2].drop 0).take (Tryz.prog.cellsOf 3)) = some y0 := hg 0 _ rfl
    have t1 : DataW.trod enc Tryz.prog W 0 (fun _ => true) true n 2 (([c0, c1, c2].drop 1).take (Tryz.prog.cellsOf 2)) = some y1 := hg 1 _ rfl
    have t2 : DataW.trod enc Tryz.prog W 0 (fun _ => true) true n 9 (([c0, c1, c2].drop 2).take (Tryz.prog.cellsOf 9)) = some y2 := hg 2 _ rfl
    rw [s0] at t0
    rw [s1] at t1
    rw [s2] at t2
    obtain ⟨k, e0, _, w0⟩ := DataW.trod_int Tryz.underlying3 t0
    obtain ⟨j, e1, _, w1⟩ := DataW.trod_int Tryz.underlying2 t1
    obtain ⟨s, e2, _, w2⟩ := DataW.trod_string Tryz.underlying9 t2
    simp at e0 e1 e2
    subst e0 e1 e2
    refine ⟨⟨k, j, s.data.toList⟩, rfl, rfl, rfl, i64_bounds w0, i64_bounds w1, ?_⟩
    have hsz : s.data.toList.length = s.size := by rw [Array.length_toList]; rfl
    show s.data.toList.length ≤ 9223372036854775807
    unfold maxLen at w2
    omega

theorem cellsV : Tryz.prog.cellsOf 26 = 3 := by kernel_rfl

set_option maxRecDepth 100000 in
theorem open_val {H : Type} {enc : TypeId × Value → H} {W : World} {base : Nat} {v : Value} {d : DataW H} {p : List MemPlace}
    (hv : Value.okWide Tryz.prog W .any base 26 v) (h : DataW.Trod enc Tryz.prog W 0 (fun _ => true) true 26 v d p) :
    ∃ x : V, v = .agg #[.int .i64 x.k, .int .i64 x.i, .string ⟨x.s.toArray⟩] ∧ x.ok := by
  obtain ⟨c0, c1, c2, y0, y1, y2, m, rfl, _, _, t0, t1, t2⟩ := open_agg3 Tryz.underlying26 (by kernel_rfl) cellsV hv h
  obtain ⟨k, e0, _, w0⟩ := DataW.trod_int Tryz.underlying3 t0
  obtain ⟨j, e1, _, w1⟩ := DataW.trod_int Tryz.underlying2 t1
  obtain ⟨s, e2, _, w2⟩ := DataW.trod_string Tryz.underlying9 t2
  simp at e0 e1 e2
  subst e0 e1 e2
  refine ⟨⟨k, j, s.data.toList⟩, rfl, i64_bounds w0, i64_bounds w1, ?_⟩
  have hsz : s.data.toList.length = s.size := by rw [Array.length_toList]; rfl
  show s.data.toList.length ≤ 9223372036854775807
  unfold maxLen at w2
  omega

end Go.Proofs.YtdhjogmkhbpcgaaGreat
