/- What a row's list of variables gives: strconv's table of powers. -/
import Derived.Test.YtdoonajhplcmlaaDoorLift
import Derived.Stop.LaidErr
namespace Go.Proofs.YtdoonajhplcmlaaDoor
open Go.RowKit

theorem pow10_data : Rows.laid_internal_strconv_uint64pow10 (H := Unit) = Lib.tabData .u64 Lib.pow10Tab := by kernel_rfl
theorem g10 : Tryd.prog.globalNamed "internal/strconv.uint64pow10" = some 0 := by kernel_rfl
theorem t10 : (Tryd.prog.globals[0]?).map (·.type) = some 111 := by kernel_rfl
theorem c10 : Tryd.prog.cellsOf 88 = 1 := by kernel_rfl
theorem d10 : Tryd.prog.cellsOf 111 = 20 := by kernel_rfl
theorem tab10_of {W : World} {x y : String × DataW Unit} {rest : List (String × DataW Unit)} (hL : laidMet Tryd.prog (x :: y :: ("internal/strconv.uint64pow10", Rows.laid_internal_strconv_uint64pow10) :: rest) W) : Tab10 W := by
  have h := laidMet.tail (laidMet.tail hL)
  rw [pow10_data] at h
  exact Lib.tabIs_of_head g10 t10 Tryd.underlying111 Tryd.underlying88 c10 d10 h

end Go.Proofs.YtdoonajhplcmlaaDoor
