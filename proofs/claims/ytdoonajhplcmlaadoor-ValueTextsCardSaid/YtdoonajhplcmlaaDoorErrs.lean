/- What a row's list of variables gives: strconv's two errors; and how a text is opened. -/
import Derived.Test.YtdoonajhplcmlaaDoorTab
import Derived.Test.YtdoonajhplcmlaaDoorParse
namespace Go.Proofs.YtdoonajhplcmlaaDoor
open Go.RowKit Go.ChangeShapes Go.WideShapes Go.ChangeAt

theorem star : "*errors.errorString" = "*" ++ "errors.errorString" := by decide
theorem rowErr (u : TypeId) (h : Tryd.prog.typeName? 3 u = some "*errors.errorString") : u = 129 :=
  typeName_ptr_named (nm := "errors.errorString") (by rw [← star]; kernel_rfl) (by kernel_rfl) (by decide) u (by rw [← star]; exact h)
theorem gRange : Tryd.prog.globalNamed "strconv.ErrRange" = some 2 := by kernel_rfl
theorem gSyntax : Tryd.prog.globalNamed "strconv.ErrSyntax" = some 1 := by kernel_rfl
theorem tRange : (Tryd.prog.globals[2]?).map (·.type) = some 65 := by kernel_rfl
theorem tSyntax : (Tryd.prog.globals[1]?).map (·.type) = some 65 := by kernel_rfl
theorem cErr : Tryd.prog.cellsOf 131 = 1 := by kernel_rfl
theorem cStr : Tryd.prog.cellsOf 9 = 1 := by kernel_rfl
theorem errs_of {W : World} {a b c d : String × DataW Unit} {rest : List (String × DataW Unit)} (hL : laidMet Tryd.prog (a :: b :: c :: d :: ("strconv.ErrRange", Rows.laid_strconv_ErrRange) :: ("strconv.ErrSyntax", Rows.laid_strconv_ErrSyntax) :: rest) W) : Errs W := by
  have h := laidMet.tail (laidMet.tail (laidMet.tail (laidMet.tail hL)))
  obtain ⟨a0, _, h0, _⟩ := laid_sentinel h gRange tRange Tryd.underlying65 rowErr Tryd.underlying129 Tryd.underlying131 rfl rfl Tryd.underlying9 cErr cStr
  obtain ⟨a1, _, h1, _⟩ := laid_sentinel h.tail gSyntax tSyntax Tryd.underlying65 rowErr Tryd.underlying129 Tryd.underlying131 rfl rfl Tryd.underlying9 cErr cStr
  exact ⟨⟨_, _, h1⟩, _, _, h0⟩

set_option maxRecDepth 100000 in
theorem open_str {H : Type} {enc : TypeId × Value → H} {W : World} {base : Nat} {v : Value} {d : DataW H} {p : List MemPlace}
    (hv : Value.okWide Tryd.prog W .any base 9 v) (h : DataW.Trod enc Tryd.prog W 0 (fun _ => true) true 9 v d p) :
    ∃ l : List UInt8, v = .string ⟨l.toArray⟩ ∧ l.length ≤ maxLen := by
  obtain ⟨s, rfl⟩ := okWide_string Tryd.underlying9 hv
  obtain ⟨fuel, hf⟩ := h
  obtain ⟨s', e2, _, w2⟩ := DataW.trod_string Tryd.underlying9 hf
  simp [Value.cells] at e2
  subst e2
  exact ⟨s.data.toList, rfl, by rw [Array.length_toList]; exact w2⟩

end Go.Proofs.YtdoonajhplcmlaaDoor
