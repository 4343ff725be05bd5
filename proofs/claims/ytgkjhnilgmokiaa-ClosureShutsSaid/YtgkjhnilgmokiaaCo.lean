/- Rows of writes: made, appended to; a map of the objects of a row. -/
import Derived.Test.YtgkjhnilgmokiaaAw
import Derived.Test.YtgkjhnilgmokiaaClm
import Derived.Test.YtgkjhnilgmokiaaMi
namespace Go.Proofs.Ytgkjhnilgmokiaa.Co
open Go.RowKit Go.ChangeShapes Go.WideShapes Go.Proofs.YtgkjhnilgmokiaaW.PrintWords Go.Proofs.Ytgkjhnilgmokiaa.Ha Go.Proofs.Ytgkjhnilgmokiaa.Hp Go.Proofs.Ytgkjhnilgmokiaa.Cl Go.Proofs.Ytgkjhnilgmokiaa.Clo Go.Proofs.Ytgkjhnilgmokiaa.W8 Go.Proofs.Ytgkjhnilgmokiaa.Of Go.Proofs.Ytgkjhnilgmokiaa.Fo Go.Proofs.Ytgkjhnilgmokiaa.Aw Go.Proofs.Ytgkjhnilgmokiaa.Clm Go.Proofs.Ytgkjhnilgmokiaa.Mi
set_option linter.unusedVariables false
def z38 : Value := .agg #[.int .i64 0, .int .i64 0, .int .i64 0, .int .i64 0, .int .i64 0, .int .u64 0, .int .u64 0, .int .i64 0]
theorem info38 : (Try.prog.info? 38).map (fun i => (i.zero, i.size, i.bytes)) = some (some z38, k8.sz, 64) := by kernel_rfl
theorem k8_KM {w W : World} {base : Nat} {ok : Nat → Prop} {x : W8} {cs : List Value} (h : k8.K w x cs) : k8.M W base ok x cs := h
theorem k8_M (W : World) (base : Nat) (ok : Nat → Prop) (x : W8) : k8.M W base ok x x.cs := k8_KM (k8_K W x)
/-- A row of writes of the call's own. -/
def R8 (w : World) (base : Nat) (v : Value) (l : List W8) : Prop := k8.R 38 w base (fun _ => True) v l
theorem R8.lit0 (w : World) (base : Nat) (h : base ≤ w.heap.size) : R8 (w.alloc (.cells #[] 38)) base (.slice (some ⟨w.heap.size, 0, none⟩) 0 0) [] :=
  ⟨fun _ _ => trivial, [], World.ownsRow_lit (base := base) (e := 38) (size := 8) w #[] 0 h (by decide) rfl, Reps.none _ _⟩
theorem R8.nil (w : World) (base : Nat) : R8 w base (.slice none 0 0) [] := Kd.R_nil _ _ _ _ _
theorem R8.reads {w : World} {base : Nat} {v : Value} {l : List W8} (h : R8 w base v l) : ∃ A c, v = .slice A l.length c ∧ Kd.C k8 w A l.length l := by
  obtain ⟨A, c, e, _, hc⟩ := Kd.R_reads h
  exact ⟨A, c, e, hc⟩
theorem R8.below {w w' : World} {base : Nat} {v : Value} {l : List W8} (h : R8 w base v l) (hb : Below w.heap.size w w') : R8 w' base v l := Kd.R_below h hb
theorem R8.alloc {w : World} {base : Nat} {v : Value} {l : List W8} (h : R8 w base v l) (o : Obj) : R8 (w.alloc o) base v l := Kd.R_alloc h o
/-- The map of a row's objects. -/
def inF (l : List Int) (x : Int) : Option Int := if x ∈ l then some 1 else none
theorem inF_next {Y : List Int} {m : Nat} (h : m < Y.length) : (fun k => if k = Y.getD m 0 then some 1 else inF (Y.take m) k) = inF (Y.take (m + 1)) := by
  funext k
  rw [take_next Y m h]
  unfold inF
  by_cases e : k = Y.getD m 0
  · subst e
    rw [if_pos rfl, if_pos (by simp)]
  · rw [if_neg e]
    have : k ∈ Y.take m ++ [Y.getD m 0] ↔ k ∈ Y.take m := by rw [List.mem_append, List.mem_singleton]; exact ⟨fun h => h.resolve_right e, .inl⟩
    by_cases hk : k ∈ Y.take m
    · rw [if_pos hk, if_pos (this.2 hk)]
    · rw [if_neg hk, if_neg (fun h => hk (this.1 h))]
theorem wf_vol {x : Int} (h : vol x = true) : (Lit.int .i64 x).wf = true := by
  obtain ⟨h1, h2⟩ := vol_iff.1 h
  exact Go.WalkArith.wf_i64 ⟨by omega, by omega⟩
theorem mem_getD {l : List Int} {i : Nat} (h : i < l.length) : l.getD i 0 ∈ l := by
  rw [List.getD_eq_getElem?_getD, List.getElem?_eq_getElem h]
  exact List.getElem_mem h
theorem IM.below {w w' : World} {b n : Nat} {f : Int → Option Int} (h : IM w b n f) (hb : Below w.heap.size w w') : IM w' b n f :=
  h.kept (grown_of_below hb none) (by simp)
end Go.Proofs.Ytgkjhnilgmokiaa.Co
