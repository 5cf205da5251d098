/- What the listed table gives: the powers of ten. -/
import Derived.Test.YtkjbkalakafnlaaDoorTG3
import Derived.Test.YtkjbkalakafnlaaDoorLF04
import Derived.Lib.LaidTab
import Derived.Stop.LaidErr
namespace Go.Proofs.YtkjbkalakafnlaaDoor
open Go.ChangeShapes Go.WideShapes Go.ChangeAt Go.RowKit
set_option maxRecDepth 100000
theorem pow10_data : (Rows.laid_internal_strconv_uint64pow10 : DataW Unit) = Lib.tabData .u64 Lib.pow10Tab := by rfl
theorem tab10_of_laid {W : World} (h : laidMetH Tryd.prog laid3 W) : Tab10 W := by
  rw [MakeChecks.laidMetH_plain _ _ _ (by kernel_rfl)] at h
  have h2 := laidMet.tail (laidMet.tail h)
  rw [pow10_data] at h2
  exact Lib.tabIs_of_head (g := 2) (by kernel_rfl) (by kernel_rfl) Tryd.underlying127 Tryd.underlying26 (by kernel_rfl) (by kernel_rfl) h2
end Go.Proofs.YtkjbkalakafnlaaDoor
