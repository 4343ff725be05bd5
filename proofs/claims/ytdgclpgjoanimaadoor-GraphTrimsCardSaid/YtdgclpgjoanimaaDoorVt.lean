/-
  What the row's listed variables give: the table that strconv reads; a world in which they lie as the program's text lays them.
-/
import Derived.Test.YtdgclpgjoanimaaDoorLd
import Derived.LaidMore
import Derived.Stop.Joined
import Derived.Stop.LaidErr
namespace Go.Proofs.YtdgclpgjoanimaaDoor.Vt
open Go.RowKit Go.ChangeShapes Go.WideShapes
set_option maxRecDepth 100000
abbrev laid : List (String × DataW Unit) := [("math/bits.deBruijn32tab", Rows.laid_math_bits_deBruijn32tab), ("math/bits.deBruijn64tab", Rows.laid_math_bits_deBruijn64tab), ("internal/strconv.uint64pow10", Rows.laid_internal_strconv_uint64pow10)]
theorem gName : Tryd.prog.globalNamed "internal/strconv.uint64pow10" = some 1 := by kernel_rfl
theorem gType : (Tryd.prog.globals[1]?).map (·.type) = some 88 := by kernel_rfl
theorem cells88 : Tryd.prog.cellsOf 88 = 20 := by kernel_rfl
theorem cells34 : Tryd.prog.cellsOf 34 = 1 := by kernel_rfl
theorem data : (Rows.laid_internal_strconv_uint64pow10 : DataW Unit) = Lib.tabData .u64 Lib.pow10Tab := by rfl
theorem tab {W : World} (h : laidMetH Tryd.prog laid W) : Ld.Tab W := by
  rw [MakeChecks.laidMetH_plain _ _ _ (by kernel_rfl)] at h
  have h2 : laidMet Tryd.prog [("internal/strconv.uint64pow10", Lib.tabData .u64 Lib.pow10Tab)] W := by
    rw [← data]
    exact laidMet.tail (laidMet.tail h)
  exact Lib.tabIs_of_head gName gType Tryd.underlying88 Tryd.underlying34 cells34 cells88 h2
theorem door_met (os : Os) (args : Array Value) : laidMetH Tryd.prog laid ((World.doorLaid Tryd.prog 400 os).forCall (fun _ _ => 0) ⟨#[], args, []⟩).memory :=
  laidMetH_of_parts3 (fuel := 8) (laidMet_of_run' 8 (by kernel_rfl) (by kernel_rfl)) (by kernel_rfl) (by kernel_rfl)
end Go.Proofs.YtdgclpgjoanimaaDoor.Vt
