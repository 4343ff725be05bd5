/-
  The library's contracts, laid at this seat's program: strconv.ParseInt, FormatInt, Itoa (base 10), strings.CutPrefix.
-/
import Derived.Shelf.Strconv.ParseIntPublic10
import Derived.Shelf.Strconv.ErrVarParseInt
import Derived.Shelf.Strconv.Itoa4
import Derived.Shelf.Small.Wraps
import Derived.Shelf.Lay
import Derived.Ground.NamesProg
import Derived.Test.YtacfddlclbelmaaDoorProg
import Derived.WalkKit
import Derived.BigCall
namespace Go.Proofs
open Go.Shelf Go.RowKit

shelf_lay LaysC.n174 Nm 174 at Tryd as Tryd.lays174
shelf_lay LaysM.n173 Nm 173 at Tryd as Tryd.lays173
shelf_lay LaysM.n171 Nm 171 at Tryd as Tryd.lays171
shelf_lay Lays.n103 Nm 103 at Tryd as Tryd.lays103

namespace YtacfddlclbelmaaDoor.Ls
theorem cutPrefix (s p : ByteArray) (w : World) :
    Calls Tryd.prog 36 #[.string s, .string p] w fun e w' => e = .returned (.tuple #[.string ⟨(Lib.trimPrefix s.data.toList p.data.toList).toArray⟩, .bool (Lib.hasPrefix s.data.toList p.data.toList)]) ∧ w' = w :=
  Any.strings_CutPrefix { Tryd.lays103 with } s p w
theorem formatInt (n : Int) (h0 : -9223372036854775808 ≤ n) (h1 : n ≤ 9223372036854775807) (w : World) (htab : Lib.TabIs Tryd.prog w "internal/strconv.uint64pow10" .u64 Lib.pow10Tab) :
    Calls Tryd.prog 41 #[.int .i64 n, .int .i64 10] w fun e w' => e = .returned (.string ⟨(Lib.itoa n).toArray⟩) ∧ ∃ k os, w' = Sort.grow (w.drewN k) os :=
  Any.strconv_FormatInt_10 Tryd.lays173 n h0 h1 w htab
theorem itoa (n : Int) (h0 : -9223372036854775808 ≤ n) (h1 : n ≤ 9223372036854775807) (w : World) (htab : Lib.TabIs Tryd.prog w "internal/strconv.uint64pow10" .u64 Lib.pow10Tab) :
    Calls Tryd.prog 43 #[.int .i64 n] w fun e w' => e = .returned (.string ⟨(Lib.itoa n).toArray⟩) ∧ ∃ k os, w' = Sort.grow (w.drewN k) os :=
  Any.strconv_Itoa Tryd.lays171 n h0 h1 w htab
theorem parseInt_ok (s : ByteArray) (hmax : s.size ≤ 9223372036854775806) (v : Int) (h : Lib.parseIntB 64 s.data.toList = .ok v) (w : World) :
    Calls Tryd.prog 48 #[.string s, .int .i64 10, .int .i64 64] w fun e w' => e = .returned (.tuple #[.int .i64 v, .nilIface]) ∧ (w' = w ∨ ∃ t, w' = Lib.bytesWorld w 5 t) :=
  Any.strconv_ParseInt_10_at64_ok Tryd.lays174 s hmax v h w
end YtacfddlclbelmaaDoor.Ls
end Go.Proofs
