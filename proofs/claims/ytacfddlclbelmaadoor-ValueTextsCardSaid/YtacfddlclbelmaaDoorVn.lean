/-
  value.number at any text.
-/
import Derived.Test.YtacfddlclbelmaaDoorVx
import Derived.Test.YtacfddlclbelmaaDoorRp
import Derived.Test.YtacfddlclbelmaaDoorDn
namespace Go.Proofs.YtacfddlclbelmaaDoor.Vn
open Go.RowKit Go.ChangeShapes Go.WideShapes Go.Proofs.YtacfddlclbelmaaDoorW.PrintWords Go.Proofs.YtacfddlclbelmaaDoor.Ba Go.Proofs.YtacfddlclbelmaaDoor.Va Go.Proofs.YtacfddlclbelmaaDoor.Vb Go.Proofs.YtacfddlclbelmaaDoor.Vp Go.Proofs.YtacfddlclbelmaaDoor.Vx Go.Proofs.YtacfddlclbelmaaDoor.Dn Go.Proofs.YtacfddlclbelmaaDoor.Fb
set_option linter.unusedVariables false
set_option linter.unusedSimpArgs false
set_option maxRecDepth 100000
set_option maxHeartbeats 8000000
theorem var_below {n : String} {cs : Array Value} {w w' : World} (h : w.var? Tryd.prog n = some cs) (hb : Below w.heap.size w w') : w'.var? Tryd.prog n = some cs := by
  unfold World.var? at h ⊢
  cases hg : Tryd.prog.globalNamed n with
  | none => rw [hg] at h; cases h
  | some g =>
    rw [hg] at h
    simp only [Option.bind_some] at h ⊢
    have hlt : g < w.heap.size := by
      rcases Nat.lt_or_ge g w.heap.size with h' | h'
      · exact h'
      · rw [Array.getElem?_eq_none h'] at h; cases h
    rw [hb.block g hlt]
    exact h
/-- What strconv reads: two tables, two sentinels. -/
structure Sn (w : World) : Prop where
  t : Tab w
  z : Tz w
  s : ∃ tp p, w.var? Tryd.prog "strconv.ErrSyntax" = some #[.iface tp p]
  r : ∃ tp p, w.var? Tryd.prog "strconv.ErrRange" = some #[.iface tp p]
theorem Sn.below {w w' : World} (h : Sn w) (hb : Below w.heap.size w w') : Sn w' := by
  obtain ⟨a, b, ⟨tp, p, c⟩, ⟨tq, q, d⟩⟩ := h
  exact ⟨a.below hb, b.below hb, ⟨tp, p, var_below c hb⟩, ⟨tq, q, var_below d hb⟩⟩
def NPost (o : Option Int) (w : World) (e : Ending) (w' : World) : Prop := ∃ x, e = .returned (.tuple #[.int .i64 x, .bool o.isSome]) ∧ (∀ v, o = some v → x = v) ∧ Below w.heap.size w w'
theorem numO_ok {l : List UInt8} {v : Int} (h : Lib.parseIntB 64 l = .ok v) : numO l = if Lib.itoa v = l then some v else none := by
  unfold numO
  rw [h]
theorem number_any (s : ByteArray) (hs : s.size ≤ 281474976710656) (w : World) (h : Sn w) : Calls Tryd.prog 38 #[.string s] w (NPost (numO s.data.toList) w) := by
  rcases hp : Lib.parseIntB 64 s.data.toList with v | _ | _
  · skip
    obtain ⟨h0, h1⟩ := parse_bd hp
    refine (number_ok s (by omega) v hp h0 h1 w h.t).mono fun e w' ⟨he, hb⟩ => ?_
    rw [numO_ok hp]
    rw [ByteArray.toList_eq, ByteArray.toList_eq] at he
    have he' : e = .returned (.tuple #[.int .i64 v, .bool (Lib.itoa v == s.data.toList)]) := he
    by_cases e1 : Lib.itoa v = s.data.toList
    · rw [if_pos e1]
      refine ⟨v, ?_, (fun u hu => Option.some.inj hu), hb⟩
      rw [he', e1]
      simp
    · rw [if_neg e1]
      refine ⟨v, ?_, (fun u hu => by cases hu), hb⟩
      rw [he', show (Lib.itoa v == s.data.toList) = false from beq_eq_false_iff_ne.2 e1]
      rfl
  · skip
    obtain ⟨tp, p, hv⟩ := h.s
    have HC := Lib.hid (Any.strconv_ParseInt_10_at64_syntax_var Tryd.lays174 s hs hp tp p w hv)
    have HO : Hid (numO s.data.toList = none) := Lib.hid (by unfold numO; rw [hp])
    clear hp hv h
    go_enter Tryd.func38, Tryd.ntmps38
    go_wp2_with fail
    refine HC.out.mono ?_
    rintro e w1 ⟨N, rfl, hN, _, hb⟩
    have HB := Lib.hid hb
    clear hb hN
    go_wp2
    go_ret2
    rw [HO.out]
    exact ⟨_, rfl, (fun u hu => by cases hu), HB.out⟩
  · skip
    obtain ⟨tp, p, hv⟩ := h.r
    have HC := Lib.hid (Any.strconv_ParseInt_10_at64_range_var Tryd.lays174 s hs hp tp p w hv)
    have HO : Hid (numO s.data.toList = none) := Lib.hid (by unfold numO; rw [hp])
    clear hp hv h
    go_enter Tryd.func38, Tryd.ntmps38
    go_wp2_with fail
    refine HC.out.mono ?_
    rintro e w1 ⟨N, rfl, hN, _, hb⟩
    have HB := Lib.hid hb
    clear hb hN
    go_wp2
    go_ret2
    rw [HO.out]
    exact ⟨_, rfl, (fun u hu => by cases hu), HB.out⟩
end Go.Proofs.YtacfddlclbelmaaDoor.Vn
