/- What a row's list of variables gives: strconv's table of powers. -/
import Derived.Test.YtdnkkkgneikhkaaGreatDoorLift
import Derived.Stop.LaidErr
namespace Go.Proofs.YtdnkkkgneikhkaaGreatDoor
open Go.RowKit

theorem pow10_data : Rows.laid_internal_strconv_uint64pow10 (H := Unit) = Lib.tabData .u64 Lib.pow10Tab := by kernel_rfl
theorem g10 : Tryz.prog.globalNamed "internal/strconv.uint64pow10" = some 5 := by kernel_rfl
theorem t10 : (Tryz.prog.globals[5]?).map (·.type) = some 219 := by kernel_rfl
theorem c10 : Tryz.prog.cellsOf 203 = 1 := by kernel_rfl
theorem d10 : Tryz.prog.cellsOf 219 = 20 := by kernel_rfl
theorem tab10_of {W : World} {x y : String × DataW Unit} {rest : List (String × DataW Unit)} (hL : laidMet Tryz.prog (x :: y :: ("internal/strconv.uint64pow10", Rows.laid_internal_strconv_uint64pow10) :: rest) W) : Tab10 W := by
  have h := laidMet.tail (laidMet.tail hL)
  rw [pow10_data] at h
  exact Lib.tabIs_of_head g10 t10 Tryz.underlying219 Tryz.underlying203 c10 d10 h

end Go.Proofs.YtdnkkkgneikhkaaGreatDoor
