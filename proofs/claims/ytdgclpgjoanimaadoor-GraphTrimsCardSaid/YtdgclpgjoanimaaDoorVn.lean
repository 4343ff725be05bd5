/- Both tables. -/
import Derived.Test.YtdgclpgjoanimaaDoorFb
namespace Go.Proofs.YtdgclpgjoanimaaDoor.Vn
open Go.RowKit Go.ChangeShapes Go.WideShapes Go.Proofs.YtdgclpgjoanimaaDoorW.PrintWords
structure Sn (w : World) : Prop where
  t : Ld.Tab w
  z : Fb.Tz w
theorem Sn.below {w w' : World} (h : Sn w) (hb : Below w.heap.size w w') : Sn w' := ⟨h.t.below hb, h.z.below hb⟩
end Go.Proofs.YtdgclpgjoanimaaDoor.Vn
