/- Both tables, out of the row's listed variables. -/
import Derived.Test.YtdgclpgjoanimaaDoorVn
namespace Go.Proofs.YtdgclpgjoanimaaDoor.Vs
open Go.RowKit
theorem sn {W : World} (h : laidMetH Tryd.prog Vt.laid W) : Vn.Sn W := ⟨Vt.tab h, Fb.tz h⟩
end Go.Proofs.YtdgclpgjoanimaaDoor.Vs
