/- What a row's list of variables gives: strconv's two errors; and how a text is opened. -/
import Derived.Test.YtdnkkkgneikhkaaGreatDoorTab
import Derived.Test.YtdnkkkgneikhkaaGreatDoorParse
import Derived.Test.YtdnkkkgneikhkaaGreatDoorOpenS
namespace Go.Proofs.YtdnkkkgneikhkaaGreatDoor
open Go.RowKit Go.ChangeShapes Go.WideShapes Go.ChangeAt

theorem star : "*errors.errorString" = "*" ++ "errors.errorString" := by decide
theorem rowErr (u : TypeId) (h : Tryz.prog.typeName? 3 u = some "*errors.errorString") : u = 247 :=
  typeName_ptr_named (nm := "errors.errorString") (by rw [← star]; kernel_rfl) (by kernel_rfl) (by decide) u (by rw [← star]; exact h)
theorem gRange : Tryz.prog.globalNamed "strconv.ErrRange" = some 9 := by kernel_rfl
theorem gSyntax : Tryz.prog.globalNamed "strconv.ErrSyntax" = some 8 := by kernel_rfl
theorem tRange : (Tryz.prog.globals[9]?).map (·.type) = some 143 := by kernel_rfl
theorem tSyntax : (Tryz.prog.globals[8]?).map (·.type) = some 143 := by kernel_rfl
theorem cErr : Tryz.prog.cellsOf 249 = 1 := by kernel_rfl
theorem cStr : Tryz.prog.cellsOf 9 = 1 := by kernel_rfl
theorem errs_of {W : World} {a b c d : String × DataW Unit} {rest : List (String × DataW Unit)} (hL : laidMet Tryz.prog (a :: b :: c :: d :: ("strconv.ErrRange", Rows.laid_strconv_ErrRange) :: ("strconv.ErrSyntax", Rows.laid_strconv_ErrSyntax) :: rest) W) : Errs W := by
  have h := laidMet.tail (laidMet.tail (laidMet.tail (laidMet.tail hL)))
  obtain ⟨a0, _, h0, _⟩ := laid_sentinel h gRange tRange Tryz.underlying143 rowErr Tryz.underlying247 Tryz.underlying249 rfl rfl Tryz.underlying9 cErr cStr
  obtain ⟨a1, _, h1, _⟩ := laid_sentinel h.tail gSyntax tSyntax Tryz.underlying143 rowErr Tryz.underlying247 Tryz.underlying249 rfl rfl Tryz.underlying9 cErr cStr
  exact ⟨⟨_, _, h1⟩, _, _, h0⟩

end Go.Proofs.YtdnkkkgneikhkaaGreatDoor
