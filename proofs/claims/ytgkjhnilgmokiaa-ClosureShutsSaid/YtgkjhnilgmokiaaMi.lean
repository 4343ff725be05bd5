/- A map[int]int of the call's own, said by a function: look-ups and stores. -/
import Derived.Test.YtgkjhnilgmokiaaRows
import Derived.Maps.Own
import Derived.Maps.OwnOps
import Derived.Maps.OwnSet
import Derived.Maps.Ext
import Derived.WalkKit
namespace Go.Proofs.Ytgkjhnilgmokiaa.Mi
open Go.RowKit
theorem keyed3 : Go.Maps.Keyed Try.prog 3 := Go.Maps.int_keyed Try.underlying3
/-- The map of block b holds f. -/
def IM (w : World) (b n : Nat) (f : Int → Option Int) : Prop := ∃ D : DataW Unit, w.ownsMap Try.prog 3 (plainElem Try.prog 3) b n D ∧ Maps.IsMap D ∧
  ∀ x : Int, Maps.has D (.int .i64 x) = (f x).isSome ∧ D.atKey (.int .i64 x) (.lit (.int .i64 0)) = .lit (.int .i64 ((f x).getD 0))
theorem key_int (x : Int) (hw : (Lit.int .i64 x).wf = true) : keyOf Try.prog 3 (.int .i64 x) = some (.int .i64 x) := by
  simp [keyOf, mapKey, Try.underlying3, hw]
theorem zero3 (w : World) : (zeroValue 3).run Try.prog w = .ok (.int .i64 0) w := by kernel_rfl
theorem IM.made (w : World) : IM (w.alloc (.map #[] 0)) w.heap.size 0 (fun _ => none) :=
  ⟨_, World.ownsMap_made w _ _ _, ⟨_, rfl⟩, fun _ => ⟨rfl, rfl⟩⟩
theorem IM.lt {w : World} {b n : Nat} {f : Int → Option Int} (h : IM w b n f) : b < w.heap.size := by
  obtain ⟨D, h, _⟩ := h; exact h.lt
theorem IM.kept {w w' : World} {b n : Nat} {f : Int → Option Int} {row : Option Nat} (h : IM w b n f) (hg : w.grownBy w' row) (hne : some b ≠ row) : IM w' b n f := by
  obtain ⟨D, h, r⟩ := h; exact ⟨D, h.kept hg hne, r⟩
theorem IM.alloc {w : World} {b n : Nat} {f : Int → Option Int} (h : IM w b n f) (o : Obj) : IM (w.alloc o) b n f := by
  obtain ⟨D, h, r⟩ := h; exact ⟨D, h.alloc o, r⟩
theorem IM.drew {w : World} {b n : Nat} {f : Int → Option Int} (h : IM w b n f) : IM w.drew b n f := by
  obtain ⟨D, h, r⟩ := h; exact ⟨D, h.drew, r⟩
theorem IM.look {w : World} {b n : Nat} {f : Int → Option Int} (h : IM w b n f) (x : Int) (hw : (Lit.int .i64 x).wf = true) :
    (Instr.lookup 33 (.map (some b)) (.int .i64 x) false).run Try.prog w = .ok (.int .i64 ((f x).getD 0)) w := by
  obtain ⟨D, h, _, r⟩ := h
  obtain ⟨c, hrun, hat, _⟩ := h.lookup_int keyed3 Try.underlying33 Try.underlying3 (zero3 w) (key_int x hw)
  rw [(r x).2] at hat
  injection hat with hat
  injection hat with _ hat
  rw [hat]; exact hrun
theorem IM.look_ok {w : World} {b n : Nat} {f : Int → Option Int} (h : IM w b n f) (x : Int) (hw : (Lit.int .i64 x).wf = true) :
    (Instr.lookup 33 (.map (some b)) (.int .i64 x) true).run Try.prog w = .ok (.tuple #[.int .i64 ((f x).getD 0), .bool (f x).isSome]) w := by
  obtain ⟨D, h, _, r⟩ := h
  obtain ⟨v, ps, hrun, hv⟩ := h.look_ok keyed3 Try.underlying33 (zero3 w) (plainElem_int Try.underlying3 (by decide)) (key_int x hw)
  rw [(r x).2] at hv
  obtain ⟨c, rfl, hc, _⟩ := plainElem_int_inv Try.underlying3 hv
  have hc1 := congrArg Prod.fst hc
  injection hc1 with hc1
  injection hc1 with _ hc1
  rw [(r x).1] at hrun
  rw [hc1]; exact hrun
theorem IM.store {w : World} {b n : Nat} {f : Int → Option Int} (h : IM w b n f) (hn : n < maxLen) (x y : Int) (hw : (Lit.int .i64 x).wf = true) (hy : (Lit.int .i64 y).wf = true) :
    ∃ w', (Instr.mapUpdate 33 (.map (some b)) (.int .i64 x) (.int .i64 y)).run Try.prog w = .ok () w' ∧ IM w' b (n + 1) (fun k => if k = x then some y else f k) ∧ w.grownBy w' (some b) := by
  obtain ⟨D, h, hm, r⟩ := h
  obtain ⟨w', hrun, ho, hg⟩ := h.update keyed3 Try.underlying33 hn (key_int x hw) (plainElem_int (a := y) Try.underlying3 hy)
  have hk : WideAt.IsKeyLit (.int .i64 x) := ⟨⟩
  refine ⟨w', hrun, ⟨_, ho, ?_, fun k => ?_⟩, hg⟩
  · obtain ⟨es, rfl⟩ := hm; exact ⟨_, rfl⟩
  · by_cases e : k = x
    · subst e
      dsimp only
      rw [if_pos rfl, Maps.has_put_same hm hk, Maps.atKey_put_same hm hk]
      exact ⟨rfl, rfl⟩
    · have hne : (Lit.int .i64 k) ≠ (Lit.int .i64 x) := fun h => e (by injection h)
      dsimp only
      rw [if_neg e, Maps.has_put_other hne, Maps.atKey_put_other hne]
      exact r k
end Go.Proofs.Ytgkjhnilgmokiaa.Mi
