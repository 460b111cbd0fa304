/- How arguments of the laws are opened: a text, an octet. -/
import Derived.Test.YtdhjogmkhbpcgaaGreatOpenM
namespace Go.Proofs.YtdhjogmkhbpcgaaGreat
open Go.RowKit Go.ChangeShapes Go.WideShapes Go.ChangeAt

set_option maxRecDepth 100000 in
theorem open_str {H : Type} {enc : TypeId × Value → H} {W : World} {base : Nat} {v : Value} {d : DataW H} {p : List MemPlace}
    (hv : Value.okWide Tryz.prog W .any base 9 v) (h : DataW.Trod enc Tryz.prog W 0 (fun _ => true) true 9 v d p) :
    ∃ l : List UInt8, v = .string ⟨l.toArray⟩ ∧ l.length ≤ maxLen := by
  obtain ⟨s, rfl⟩ := okWide_string Tryz.underlying9 hv
  obtain ⟨fuel, hf⟩ := h
  obtain ⟨s', e2, _, w2⟩ := DataW.trod_string Tryz.underlying9 hf
  simp [Value.cells] at e2
  subst e2
  exact ⟨s.data.toList, rfl, by rw [Array.length_toList]; exact w2⟩

set_option maxRecDepth 100000 in
theorem open_u8 {H : Type} {enc : TypeId × Value → H} {W : World} {base : Nat} {v : Value} {d : DataW H} {p : List MemPlace}
    (hv : Value.okWide Tryz.prog W .any base 5 v) (h : DataW.Trod enc Tryz.prog W 0 (fun _ => true) true 5 v d p) :
    ∃ n : Nat, v = .int .u8 (n : Int) ∧ n ≤ 255 := by
  obtain ⟨x, rfl, _, _, wx⟩ := open_int Tryz.underlying5 hv h
  have h3 : 0 ≤ x ∧ x ≤ 255 := by simpa [Lit.wf, IntKind.min, IntKind.max, IntKind.signed, IntKind.bits] using wx
  exact ⟨x.toNat, by congr 1; omega, by omega⟩

end Go.Proofs.YtdhjogmkhbpcgaaGreat
