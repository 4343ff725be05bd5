/- Values and writes as they lie (five cells, eight cells), rows of ints and of writes of the call's own, small laws of worlds. -/
import Derived.Test.YtacfddlclbelmaaDoorRows
import Derived.Test.YtacfddlclbelmaaDoorOpen
import Derived.Test.YtacfddlclbelmaaDoorScope
import Derived.WalkKit
import Derived.WalkSpells
import Derived.WalkLawsBesides
import Derived.WalkMore
import Derived.Lib.Hide
import Derived.Maps.AppendAt
import Derived.WalkArith
import Derived.IntWalk
import Derived.RegionTactic
import Derived.Deep.MidRow
import Derived.Deep.RegionHeld3
import Derived.Outline
namespace Go.Proofs.YtacfddlclbelmaaDoor.Ba
open Go.RowKit Go.ChangeShapes Go.WideShapes Go.Proofs.YtacfddlclbelmaaDoorW.PrintWords
set_option linter.unusedVariables false
set_option maxRecDepth 100000
theorem size_al (w : World) (b : Obj) : (w.alloc b).heap.size = w.heap.size + 1 := by
  show (w.heap.push b).size = _
  rw [Array.size_push]
theorem info3 : (Tryd.prog.info? 3).map (fun i => (i.zero, i.size, i.bytes)) = some (some (.int .i64 0), 1, 8) := by kernel_rfl
def wf64 (n : Int) : Prop := (Lit.int .i64 n).wf = true
theorem wf_small {n : Int} (h0 : -100000000 ≤ n) (h1 : n ≤ 100000000) : (Lit.int .i64 n).wf = true := Go.WalkArith.wf_i64 ⟨by omega, by omega⟩
theorem grown_set (w : World) (g k : Nat) (v : Value) : w.grownBy (w.setCell ⟨g, k, none⟩ v) (some g) :=
  ⟨rfl, rfl, rfl, by simp [World.setCell], fun j _ hne => Below.heap_setCell w _ v j (fun e => hne (by rw [e]))⟩
theorem grown_trans {a b c : World} {r : Option Nat} (h : a.grownBy b r) (k : b.grownBy c r) : a.grownBy c r :=
  ⟨k.os.trans h.os, k.tape.trans h.tape, k.output.trans h.output, Nat.le_trans h.size k.size, fun i hi hne => (k.block i (Nat.lt_of_lt_of_le hi h.size) hne).trans (h.block i hi hne)⟩
theorem own_below {w w1 : World} {base base' n : Nat} {v : Value} {xs : List Value} (h : w.ownsRow base 3 1 v n xs) (hb : Below w.heap.size w w1) (hle : base' ≤ base) : w1.ownsRow base' 3 1 v n xs :=
  own_weaken (own_move h fun k hk => hb.block k (h.lt k hk).2) hle
/-- A row of ints is read: cell by cell. -/
def Rd (w : World) (A : Option Addr) (l : List Int) : Prop := ∀ i, i < l.length → ∃ ad, A = some ad ∧ w.cell? (ad.add i) = some (.int .i64 (l.getD i 0))
theorem cell_old {w w' : World} {a : Addr} {v : Value} (hc : w.cell? a = some v) (hb : ∀ k, k < w.heap.size → w'.heap[k]? = w.heap[k]?) : w'.cell? a = some v := by
  rw [← hc]
  have hlt : a.block < w.heap.size := by
    cases hh : w.heap[a.block]? with
    | none =>
      unfold World.cell? at hc
      rw [hh] at hc
      simp at hc
    | some x => exact (Array.getElem?_eq_some_iff.1 hh).1
  unfold World.cell?
  rw [hb _ hlt]
theorem Rd.below {w w' : World} {A : Option Addr} {l : List Int} (h : Rd w A l) (hb : ∀ k, k < w.heap.size → w'.heap[k]? = w.heap[k]?) : Rd w' A l := by
  intro i hi
  obtain ⟨ad, e, hc⟩ := h i hi
  exact ⟨ad, e, cell_old hc hb⟩
theorem own_rd {w : World} {base n : Nat} {v : Value} {l : List Int} (h : w.ownsRow base 3 1 v n (l.map (Value.int .i64))) : n = l.length ∧ ∃ A c, v = .slice A l.length c ∧ Rd w A l := by
  have hn : n = l.length := by have := h.1; rw [List.length_map] at this; omega
  subst hn
  refine ⟨rfl, ?_⟩
  rcases h.2 with ⟨rfl, h0⟩ | ⟨g, cap, cur, rfl, _, _, _⟩
  · exact ⟨none, 0, by rw [h0], fun i hi => by omega⟩
  · refine ⟨_, _, rfl, fun i hi => ⟨_, rfl, ?_⟩⟩
    refine h.cells rfl i _ ?_
    rw [List.getElem?_map, List.getElem?_eq_getElem hi, List.getD_eq_getElem?_getD, List.getElem?_eq_getElem hi]
    rfl
theorem rd_C {w : World} {A : Option Addr} {l : List Int} (h : Kd.C (Kd.int .i64) w A l.length l) : Rd w A l := by
  intro i hi
  obtain ⟨ad, e, hc⟩ := Kd.at_int h i (by omega) (by omega)
  rw [Int.toNat_natCast] at hc
  exact ⟨ad, e, hc⟩
theorem mem_getD {α : Type} {l : List α} {i : Nat} {d : α} (h : i < l.length) : l.getD i d ∈ l := by
  rw [List.getD_eq_getElem?_getD, List.getElem?_eq_getElem h]
  exact List.getElem_mem h
theorem take_snoc {α : Type} (l : List α) (d : α) (k : Nat) (h : k < l.length) : l.take (k + 1) = l.take k ++ [l.getD k d] := by
  rw [List.take_add_one, List.getD_eq_getElem?_getD, List.getElem?_eq_getElem h]
  rfl
/-- Two rows of the same ints are the same. -/
theorem cell_heap {w wr : World} (h : wr.heap = w.heap) (a : Addr) : wr.cell? a = w.cell? a := by
  unfold World.cell?
  rw [h]
structure V5 where
  kd : Int
  n : Int
  re : Int
  im : Int
  ref : Int
deriving DecidableEq
def z5 : V5 := ⟨0, 0, 0, 0, 0⟩
def V5.cs (x : V5) : List Value := [.int .i64 x.kd, .int .i64 x.n, .int .u64 x.re, .int .u64 x.im, .int .i64 x.ref]
def k5 : Kd V5 := Kd.iso (Kd.pair (Kd.int .i64) (Kd.pair (Kd.int .i64) (Kd.pair (Kd.int .u64) (Kd.pair (Kd.int .u64) (Kd.int .i64))))) (fun x : V5 => (x.kd, x.n, x.re, x.im, x.ref))
theorem k5_open {w : World} {x : V5} {cs : List Value} (h : k5.K w x cs) : cs = x.cs := by
  obtain ⟨_, _, rfl, rfl, ⟨_, _, rfl, rfl, ⟨_, _, rfl, rfl, ⟨_, _, rfl, rfl, rfl⟩⟩⟩⟩ := h
  rfl
def ok5 (x : V5) : Prop := wf64 x.kd ∧ wf64 x.n ∧ (Lit.int .u64 x.re).wf = true ∧ (Lit.int .u64 x.im).wf = true ∧ wf64 x.ref
theorem opens_v5 : Op.Opens Tryd.prog 24 k5 ok5 := by
  have h := Op.opens_iso (fun x : V5 => (x.kd, x.n, x.re, x.im, x.ref)) (fun y => V5.mk y.1 y.2.1 y.2.2.1 y.2.2.2.1 y.2.2.2.2) (fun _ => rfl)
    (Op.opens_struct Tryd.underlying24 (by kernel_rfl) (Op.opensF_cons rfl (by kernel_rfl) (Op.opens_int Tryd.underlying3) (Op.opensF_cons rfl (by kernel_rfl) (Op.opens_int Tryd.underlying2)
      (Op.opensF_cons rfl (by kernel_rfl) (Op.opens_int Tryd.underlying22) (Op.opensF_cons rfl (by kernel_rfl) (Op.opens_int Tryd.underlying22) (Op.opensF_last rfl (by kernel_rfl) (Op.opens_int Tryd.underlying3)))))))
  intro H enc w base spare held fuel cs x hx
  obtain ⟨y, hy, o⟩ := h H enc w base spare held fuel cs x hx
  exact ⟨y, hy, o⟩
def agg5 (v : V5) : Value := .agg #[.int .i64 v.kd, .int .i64 v.n, .int .u64 v.re, .int .u64 v.im, .int .i64 v.ref]
theorem agg5_of {w w' : World} {r : Reach} {base : Nat} {v : Value} {x : V5} (h : Value.okWide Tryd.prog w r base 24 v) (hk : k5.K w' x v.cells.toList) : v = agg5 x := by
  obtain ⟨cs, rfl, _⟩ := okWide_struct Tryd.underlying24 h
  have e : cs.toList = x.cs := k5_open hk
  have : cs = x.cs.toArray := by rw [← e]
  rw [this]
  rfl
theorem infoV : (Tryd.prog.info? 24).map (·.size) = some 5 := by kernel_rfl
def Bx5 (w : World) (g : Nat) (x : V5) : Prop := w.heap[g]? = some (.cells #[.int .i64 x.kd, .int .i64 x.n, .int .u64 x.re, .int .u64 x.im, .int .i64 x.ref] 24 (0, 0))
theorem Bx5.cells {w : World} {g : Nat} {a b c d e : Int} (h : Bx5 w g ⟨a, b, c, d, e⟩) : w.cell? ⟨g, 0, none⟩ = some (.int .i64 a) ∧ w.cell? ⟨g, 1, none⟩ = some (.int .i64 b) ∧ w.cell? ⟨g, 2, none⟩ = some (.int .u64 c) ∧ w.cell? ⟨g, 3, none⟩ = some (.int .u64 d) ∧ w.cell? ⟨g, 4, none⟩ = some (.int .i64 e) := by
  refine ⟨?_, ?_, ?_, ?_, ?_⟩ <;> (rw [cell_of_row w g _ _ 24 (0, 0) h]; rfl)
theorem Bx5.below {w w' : World} {B g : Nat} {x : V5} (h : Bx5 w g x) (hb : Below B w w') (hg : g < B) : Bx5 w' g x := (hb.block g hg).trans h
theorem one5 (a b c d e : Int) : (#[Value.int .i64 a, .int .i64 b, .int .u64 c, .int .u64 d, .int .i64 e] : Array Value).all (·.oneCell') = true := by
  refine all_oneCell_toArray (cs := [Value.int .i64 a, .int .i64 b, .int .u64 c, .int .u64 d, .int .i64 e]) fun v hv => ?_
  simp only [List.mem_cons, List.not_mem_nil, or_false] at hv
  rcases hv with rfl | rfl | rfl | rfl | rfl <;> rfl
theorem store_named {P : Program} {ops : Array Oper} {rest : List Oper} {op : Oper} {a : Act} {w w2 : World} {Q : Exit → Act → World → Prop} (hgd : op.guard = none) (ty : TypeId) (x y : Operand) (ho : op.op = .store ty x y)
    (b o : Nat) (cells : Array Value) (hx : a.eval x = .pointer (some ⟨b, o, none⟩)) (hy : a.eval y = .agg cells)
    (ht : w.there b o cells.size) (hi : (P.info? ty).map (·.size) = some cells.size) (h1 : cells.all (·.oneCell') = true) (hw : w.setCells b o cells.toList = w2)
    (h : wpList P ops Q rest (a.put op.dst undef) w2) : wpList P ops Q (op :: rest) a w :=
  wpList_store_mid hgd ty x y ho b o cells hx hy ht hi h1 (by rw [hw]; exact h)
theorem k5_K (w : World) (x : V5) : k5.K w x x.cs :=
  ⟨[_], _, rfl, rfl, ⟨[_], _, rfl, rfl, ⟨[_], _, rfl, rfl, ⟨[_], _, rfl, rfl, rfl⟩⟩⟩⟩
end Go.Proofs.YtacfddlclbelmaaDoor.Ba
