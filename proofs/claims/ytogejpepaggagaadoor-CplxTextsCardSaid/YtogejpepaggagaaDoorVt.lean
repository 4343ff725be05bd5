/-
  What the row's listed variables give: the cell of math/bits' table that is read; a world in which they lie as the program's text lays them.
-/
import Derived.Test.YtogejpepaggagaaDoorRp
import Derived.LaidMore
import Derived.Stop.Joined
import Derived.Stop.LaidErr
import Derived.Lib.TrailingZeros
namespace Go.Proofs.YtogejpepaggagaaDoor.Vp
abbrev Tab := Fb.Tz
end Go.Proofs.YtogejpepaggagaaDoor.Vp
namespace Go.Proofs.YtogejpepaggagaaDoor.Vt
open Go.RowKit Go.ChangeShapes Go.WideShapes
set_option maxRecDepth 100000
abbrev laid : List (String × DataW Unit) := [("math/bits.deBruijn32tab", Rows.laid_math_bits_deBruijn32tab), ("math/bits.deBruijn64tab", Rows.laid_math_bits_deBruijn64tab), ("internal/strconv.uint64pow10", Rows.laid_internal_strconv_uint64pow10)]
theorem gName : Tryd.prog.globalNamed "math/bits.deBruijn64tab" = some 3 := by kernel_rfl
theorem gType : (Tryd.prog.globals[3]?).map (·.type) = some 61 := by kernel_rfl
theorem cells61 : Tryd.prog.cellsOf 61 = 64 := by kernel_rfl
theorem cells5 : Tryd.prog.cellsOf 5 = 1 := by kernel_rfl
theorem data : (Rows.laid_math_bits_deBruijn64tab : DataW Unit) = Lib.tabData .u8 (Lib.deBruijn64tab.map Int.ofNat) := by rfl
theorem tab {W : World} (h : laidMetH Tryd.prog laid W) : Vp.Tab W := by
  rw [MakeChecks.laidMetH_plain _ _ _ (by kernel_rfl)] at h
  have h2 : laidMet Tryd.prog [("math/bits.deBruijn64tab", Lib.tabData .u8 (Lib.deBruijn64tab.map Int.ofNat)), ("internal/strconv.uint64pow10", Rows.laid_internal_strconv_uint64pow10)] W := by
    rw [← data]
    exact laidMet.tail h
  have hT := Lib.tabIs_of_head gName gType Tryd.underlying61 Tryd.underlying5 cells5 cells61 h2
  have := hT.cell gName 15 (by decide)
  exact this
theorem door_met (os : Os) (args : Array Value) : laidMetH Tryd.prog laid ((World.doorLaid Tryd.prog 400 os).forCall (fun _ _ => 0) ⟨#[], args, []⟩).memory :=
  laidMetH_of_parts3 (fuel := 8) (laidMet_of_run' 8 (by kernel_rfl) (by kernel_rfl)) (by kernel_rfl) (by kernel_rfl)
end Go.Proofs.YtogejpepaggagaaDoor.Vt
