/-
  What the row's listed variables give: both tables, both sentinels.
-/
import Derived.Test.YtacfddlclbelmaaDoorVt
import Derived.Test.YtacfddlclbelmaaDoorVn
import Derived.Lib.TrailingZeros
namespace Go.Proofs.YtacfddlclbelmaaDoor.Vs
open Go.RowKit Go.ChangeShapes Go.WideShapes Go.Proofs.YtacfddlclbelmaaDoor.Vt
set_option maxRecDepth 100000
theorem gName5 : Tryd.prog.globalNamed "math/bits.deBruijn64tab" = some 5 := by kernel_rfl
theorem gType5 : (Tryd.prog.globals[5]?).map (·.type) = some 109 := by kernel_rfl
theorem cells109 : Tryd.prog.cellsOf 109 = 64 := by kernel_rfl
theorem cells5 : Tryd.prog.cellsOf 5 = 1 := by kernel_rfl
theorem data5 : (Rows.laid_math_bits_deBruijn64tab : DataW Unit) = Lib.tabData .u8 (Lib.deBruijn64tab.map Int.ofNat) := by rfl
theorem gES : Tryd.prog.globalNamed "strconv.ErrSyntax" = some 2 := by kernel_rfl
theorem gESType : (Tryd.prog.globals[2]?).map (·.type) = some 69 := by kernel_rfl
theorem gER : Tryd.prog.globalNamed "strconv.ErrRange" = some 3 := by kernel_rfl
theorem gERType : (Tryd.prog.globals[3]?).map (·.type) = some 69 := by kernel_rfl
theorem cells107 : Tryd.prog.cellsOf 107 = 1 := by kernel_rfl
theorem cells9 : Tryd.prog.cellsOf 9 = 1 := by kernel_rfl
theorem star : "*" ++ "errors.errorString" = "*errors.errorString" := by decide
theorem row107 (u : TypeId) (h : Tryd.prog.typeName? 3 u = some "*errors.errorString") : u = 105 :=
  typeName_ptr_named (nm := "errors.errorString") (by rw [star]; kernel_rfl) (by kernel_rfl) (by decide) u (by rw [star]; exact h)
theorem sn {W : World} (h : laidMetH Tryd.prog laid W) : Vn.Sn W := by
  refine ⟨Vt.tab h, ?_, ?_, ?_⟩
  · rw [MakeChecks.laidMetH_plain _ _ _ (by kernel_rfl)] at h
    have h2 : laidMet Tryd.prog [("math/bits.deBruijn64tab", Lib.tabData .u8 (Lib.deBruijn64tab.map Int.ofNat)), ("internal/strconv.uint64pow10", Rows.laid_internal_strconv_uint64pow10), ("strconv.ErrRange", Rows.laid_strconv_ErrRange), ("strconv.ErrSyntax", Rows.laid_strconv_ErrSyntax)] W := by
      rw [← data5]
      exact laidMet.tail h
    have hT := Lib.tabIs_of_head gName5 gType5 Tryd.underlying109 Tryd.underlying5 cells5 cells109 h2
    have := hT.cell gName5 15 (by decide)
    exact this
  · rw [MakeChecks.laidMetH_plain _ _ _ (by kernel_rfl)] at h
    obtain ⟨a, s, hv, _⟩ := laid_sentinel (laidMet.tail (laidMet.tail (laidMet.tail (laidMet.tail h)))) gES gESType Tryd.underlying69 row107 Tryd.underlying105 Tryd.underlying107 rfl rfl Tryd.underlying9 cells107 cells9
    exact ⟨_, _, hv⟩
  · rw [MakeChecks.laidMetH_plain _ _ _ (by kernel_rfl)] at h
    obtain ⟨a, s, hv, _⟩ := laid_sentinel (laidMet.tail (laidMet.tail (laidMet.tail h))) gER gERType Tryd.underlying69 row107 Tryd.underlying105 Tryd.underlying107 rfl rfl Tryd.underlying9 cells107 cells9
    exact ⟨_, _, hv⟩
end Go.Proofs.YtacfddlclbelmaaDoor.Vs
