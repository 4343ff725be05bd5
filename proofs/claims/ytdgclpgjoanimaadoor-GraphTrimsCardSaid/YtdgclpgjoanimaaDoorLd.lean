/-
  The library's contracts, laid at this seat's program: strconv.AppendInt, FormatInt, Itoa (base 10); the table that they read.
-/
import Derived.Shelf.Strconv.AppendIntPublic10
import Derived.Shelf.Strconv.Itoa4
import Derived.Shelf.Lay
import Derived.Ground.NamesProg
import Derived.Test.YtdgclpgjoanimaaDoorBase
import Derived.WalkKit
import Derived.BigCall
import Derived.Lib.LaidTab
import Derived.Lib.AppendIntMem
namespace Go.Proofs
open Go.Shelf Go.RowKit

shelf_lay LaysM.n176 Nm 176 at Tryd as Tryd.lays176
shelf_lay LaysM.n173 Nm 173 at Tryd as Tryd.lays173
shelf_lay LaysM.n171 Nm 171 at Tryd as Tryd.lays171

namespace YtdgclpgjoanimaaDoor.Ld
open Go.ChangeShapes Go.WideShapes
set_option maxRecDepth 100000
set_option linter.unusedVariables false
/-- The table that strconv's numerals read. -/
def Tab (w : World) : Prop := Lib.TabIs Tryd.prog w "internal/strconv.uint64pow10" .u64 Lib.pow10Tab
theorem Tab.below {w w' : World} (h : Tab w) (hb : Below w.heap.size w w') : Tab w' := Lib.tabBelow_of_tabIs h w' hb
theorem formatInt (n : Int) (h0 : -9223372036854775808 ≤ n) (h1 : n ≤ 9223372036854775807) (w : World) (ht : Tab w) :
    Calls Tryd.prog 45 #[.int .i64 n, .int .i64 10] w fun e w' => e = .returned (.string ⟨(Lib.itoa n).toArray⟩) ∧ Below w.heap.size w w' :=
  (Any.strconv_FormatInt_10 Tryd.lays173 n h0 h1 w ht).mono fun e w' ⟨he, k, os, hw⟩ => ⟨he, by rw [hw]; exact Lib.below_grow _ _ (Nat.le_refl _) _ _⟩
theorem itoa (n : Int) (h0 : -9223372036854775808 ≤ n) (h1 : n ≤ 9223372036854775807) (w : World) (ht : Tab w) :
    Calls Tryd.prog 38 #[.int .i64 n] w fun e w' => e = .returned (.string ⟨(Lib.itoa n).toArray⟩) ∧ Below w.heap.size w w' :=
  (Any.strconv_Itoa Tryd.lays171 n h0 h1 w ht).mono fun e w' ⟨he, k, os, hw⟩ => ⟨he, by rw [hw]; exact Lib.below_grow _ _ (Nat.le_refl _) _ _⟩
theorem appendInt (B n : Nat) (i : Int) (h0 : -9223372036854775808 ≤ i) (h1 : i ≤ 9223372036854775807) (sv : Value) (xs : List Value) (w : World) (hown : w.ownsRow B 5 1 sv n xs) (hBw : B ≤ w.heap.size) (hlim : n + 21 ≤ 140737488355328) (ht : Lib.TabBelow Tryd.prog B w "internal/strconv.uint64pow10" .u64 Lib.pow10Tab) :
    Calls Tryd.prog 26 #[sv, .int .i64 i, .int .i64 10] w fun e w' => ∃ v', e = .returned v' ∧ w'.ownsRow B 5 1 v' (n + (Lib.itoa i).length) (xs ++ Lib.byteCells (Lib.itoa i)) ∧ Below B w w' ∧ Lib.OthersKept 5 none w w' :=
  (Any.strconv_AppendInt_10 Tryd.lays176 B n i h0 h1 sv xs w hown hBw hlim ht).mono fun e w' ⟨v', he, ho, hb, hk⟩ => ⟨v', he, ho, hb, hk⟩
end YtdgclpgjoanimaaDoor.Ld
end Go.Proofs
