/-
  What the rows' listed variables give the walks: strconv's table of powers of ten reads as it is laid. Conditions: none.
-/
import Derived.Test.YtmfdpdnokiidlaaDoorHKey
import Derived.MakeChecks
import Derived.LaidSub
namespace Go.Proofs.YtmfdpdnokiidlaaDoor
open Go.RowKit

def isPow (x : String × DataW Unit) : Bool := x.1 == "internal/strconv.uint64pow10"
theorem gPow : Tryd.prog.globalNamed "internal/strconv.uint64pow10" = some 0 := by kernel_rfl
theorem gPowType : (Tryd.prog.globals[0]?).map (·.type) = some 93 := by kernel_rfl
theorem cellsPow : Tryd.prog.cellsOf 93 = 20 := by kernel_rfl
theorem cellsU64 : Tryd.prog.cellsOf 84 = 1 := by kernel_rfl
theorem tab_of {l : List (String × DataW Unit)} {W : World} (h : laidMetH Tryd.prog l W) (hf : l.filter isPow = [("internal/strconv.uint64pow10", Lib.tabData .u64 Lib.pow10Tab)]) (hp : laidMetH Tryd.prog l W = laidMet Tryd.prog l W) : Tab W := by
  rw [hp] at h
  have h2 := laidMet.filter isPow h
  rw [hf] at h2
  exact Lib.tabIs_of_head gPow gPowType Tryd.underlying93 Tryd.underlying84 cellsU64 cellsPow h2
end Go.Proofs.YtmfdpdnokiidlaaDoor
