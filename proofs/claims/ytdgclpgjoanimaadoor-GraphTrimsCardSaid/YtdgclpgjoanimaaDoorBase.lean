/- Values, nodes and graphs as they lie, rows of ints, small laws of worlds. -/
import Derived.Test.YtdgclpgjoanimaaDoorRows
import Derived.Test.YtdgclpgjoanimaaDoorOpen
import Derived.Test.YtdgclpgjoanimaaDoorScope
import Derived.WalkKit
import Derived.WalkSpells
import Derived.WalkLawsBesides
import Derived.WalkMore
import Derived.Lib.Hide
import Derived.Maps.AppendAt
import Derived.WalkArith
import Derived.IntWalk
import Derived.RegionTactic
import Derived.Deep.MidRow
import Derived.Deep.RegionHeld3
import Derived.Outline
namespace Go.Proofs.YtdgclpgjoanimaaDoor.Ba
open Go.RowKit Go.ChangeShapes Go.WideShapes Go.Proofs.YtdgclpgjoanimaaDoorW.PrintWords
set_option linter.unusedVariables false
theorem size_al (w : World) (b : Obj) : (w.alloc b).heap.size = w.heap.size + 1 := by
  show (w.heap.push b).size = _
  rw [Array.size_push]
theorem info3 : (Tryd.prog.info? 3).map (fun i => (i.zero, i.size, i.bytes)) = some (some (.int .i64 0), 1, 8) := by kernel_rfl
def wf64 (n : Int) : Prop := (Lit.int .i64 n).wf = true
theorem wf_small {n : Int} (h0 : -100000000 ≤ n) (h1 : n ≤ 100000000) : (Lit.int .i64 n).wf = true := Go.WalkArith.wf_i64 ⟨by omega, by omega⟩
theorem grown_set (w : World) (g k : Nat) (v : Value) : w.grownBy (w.setCell ⟨g, k, none⟩ v) (some g) :=
  ⟨rfl, rfl, rfl, by simp [World.setCell], fun j _ hne => Below.heap_setCell w _ v j (fun e => hne (by rw [e]))⟩
theorem grown_trans {a b c : World} {r : Option Nat} (h : a.grownBy b r) (k : b.grownBy c r) : a.grownBy c r :=
  ⟨k.os.trans h.os, k.tape.trans h.tape, k.output.trans h.output, Nat.le_trans h.size k.size, fun i hi hne => (k.block i (Nat.lt_of_lt_of_le hi h.size) hne).trans (h.block i hi hne)⟩
theorem own_below {w w1 : World} {base base' n : Nat} {v : Value} {xs : List Value} (h : w.ownsRow base 3 1 v n xs) (hb : Below w.heap.size w w1) (hle : base' ≤ base) : w1.ownsRow base' 3 1 v n xs :=
  own_weaken (own_move h fun k hk => hb.block k (h.lt k hk).2) hle
/-- A row of ints is read: cell by cell. -/
def Rd (w : World) (A : Option Addr) (l : List Int) : Prop := ∀ i, i < l.length → ∃ ad, A = some ad ∧ w.cell? (ad.add i) = some (.int .i64 (l.getD i 0))
theorem cell_old {w w' : World} {a : Addr} {v : Value} (hc : w.cell? a = some v) (hb : ∀ k, k < w.heap.size → w'.heap[k]? = w.heap[k]?) : w'.cell? a = some v := by
  rw [← hc]
  have hlt : a.block < w.heap.size := by
    cases hh : w.heap[a.block]? with
    | none =>
      unfold World.cell? at hc
      rw [hh] at hc
      simp at hc
    | some x => exact (Array.getElem?_eq_some_iff.1 hh).1
  unfold World.cell?
  rw [hb _ hlt]
theorem Rd.below {w w' : World} {A : Option Addr} {l : List Int} (h : Rd w A l) (hb : ∀ k, k < w.heap.size → w'.heap[k]? = w.heap[k]?) : Rd w' A l := by
  intro i hi
  obtain ⟨ad, e, hc⟩ := h i hi
  exact ⟨ad, e, cell_old hc hb⟩
theorem own_rd {w : World} {base n : Nat} {v : Value} {l : List Int} (h : w.ownsRow base 3 1 v n (l.map (Value.int .i64))) : n = l.length ∧ ∃ A c, v = .slice A l.length c ∧ Rd w A l := by
  have hn : n = l.length := by have := h.1; rw [List.length_map] at this; omega
  subst hn
  refine ⟨rfl, ?_⟩
  rcases h.2 with ⟨rfl, h0⟩ | ⟨g, cap, cur, rfl, _, _, _⟩
  · exact ⟨none, 0, by rw [h0], fun i hi => by omega⟩
  · refine ⟨_, _, rfl, fun i hi => ⟨_, rfl, ?_⟩⟩
    refine h.cells rfl i _ ?_
    rw [List.getElem?_map, List.getElem?_eq_getElem hi, List.getD_eq_getElem?_getD, List.getElem?_eq_getElem hi]
    rfl
theorem rd_C {w : World} {A : Option Addr} {l : List Int} (h : Kd.C (Kd.int .i64) w A l.length l) : Rd w A l := by
  intro i hi
  obtain ⟨ad, e, hc⟩ := Kd.at_int h i (by omega) (by omega)
  rw [Int.toNat_natCast] at hc
  exact ⟨ad, e, hc⟩
theorem mem_getD {α : Type} {l : List α} {i : Nat} {d : α} (h : i < l.length) : l.getD i d ∈ l := by
  rw [List.getD_eq_getElem?_getD, List.getElem?_eq_getElem h]
  exact List.getElem_mem h
theorem take_snoc {α : Type} (l : List α) (d : α) (k : Nat) (h : k < l.length) : l.take (k + 1) = l.take k ++ [l.getD k d] := by
  rw [List.take_add_one, List.getD_eq_getElem?_getD, List.getElem?_eq_getElem h]
  rfl
/-- Two rows of the same ints are the same. -/
theorem cell_heap {w wr : World} (h : wr.heap = w.heap) (a : Addr) : wr.cell? a = w.cell? a := by
  unfold World.cell?
  rw [h]
structure V5 where
  kd : Int
  n : Int
  re : Int
  im : Int
  ref : Int
deriving DecidableEq
def z5 : V5 := ⟨0, 0, 0, 0, 0⟩
def V5.cs (x : V5) : List Value := [.int .i64 x.kd, .int .i64 x.n, .int .u64 x.re, .int .u64 x.im, .int .i64 x.ref]
def k5 : Kd V5 := Kd.iso (Kd.pair (Kd.int .i64) (Kd.pair (Kd.int .i64) (Kd.pair (Kd.int .u64) (Kd.pair (Kd.int .u64) (Kd.int .i64))))) (fun x : V5 => (x.kd, x.n, x.re, x.im, x.ref))
theorem k5_open {w : World} {x : V5} {cs : List Value} (h : k5.K w x cs) : cs = x.cs := by
  obtain ⟨_, _, rfl, rfl, ⟨_, _, rfl, rfl, ⟨_, _, rfl, rfl, ⟨_, _, rfl, rfl, rfl⟩⟩⟩⟩ := h
  rfl
def ok5 (x : V5) : Prop := wf64 x.kd ∧ wf64 x.n ∧ (Lit.int .u64 x.re).wf = true ∧ (Lit.int .u64 x.im).wf = true ∧ wf64 x.ref
theorem opens_v5 : Op.Opens Tryd.prog 36 k5 ok5 := by
  have h := Op.opens_iso (fun x : V5 => (x.kd, x.n, x.re, x.im, x.ref)) (fun y => V5.mk y.1 y.2.1 y.2.2.1 y.2.2.2.1 y.2.2.2.2) (fun _ => rfl)
    (Op.opens_struct Tryd.underlying36 (by kernel_rfl) (Op.opensF_cons rfl (by kernel_rfl) (Op.opens_int Tryd.underlying3) (Op.opensF_cons rfl (by kernel_rfl) (Op.opens_int Tryd.underlying2)
      (Op.opensF_cons rfl (by kernel_rfl) (Op.opens_int Tryd.underlying34) (Op.opensF_cons rfl (by kernel_rfl) (Op.opens_int Tryd.underlying34) (Op.opensF_last rfl (by kernel_rfl) (Op.opens_int Tryd.underlying3)))))))
  intro H enc w base spare held fuel cs x hx
  obtain ⟨y, hy, o⟩ := h H enc w base spare held fuel cs x hx
  exact ⟨y, hy, o⟩
def agg5 (v : V5) : Value := .agg #[.int .i64 v.kd, .int .i64 v.n, .int .u64 v.re, .int .u64 v.im, .int .i64 v.ref]
theorem agg5_of {w w' : World} {r : Reach} {base : Nat} {v : Value} {x : V5} (h : Value.okWide Tryd.prog w r base 36 v) (hk : k5.K w' x v.cells.toList) : v = agg5 x := by
  obtain ⟨cs, rfl, _⟩ := okWide_struct Tryd.underlying36 h
  have e : cs.toList = x.cs := k5_open hk
  have : cs = x.cs.toArray := by rw [← e]
  rw [this]
  rfl
theorem infoV : (Tryd.prog.info? 36).map (·.size) = some 5 := by kernel_rfl
def Bx5 (w : World) (g : Nat) (x : V5) : Prop := w.heap[g]? = some (.cells #[.int .i64 x.kd, .int .i64 x.n, .int .u64 x.re, .int .u64 x.im, .int .i64 x.ref] 36 (0, 0))
theorem Bx5.cells {w : World} {g : Nat} {a b c d e : Int} (h : Bx5 w g ⟨a, b, c, d, e⟩) : w.cell? ⟨g, 0, none⟩ = some (.int .i64 a) ∧ w.cell? ⟨g, 1, none⟩ = some (.int .i64 b) ∧ w.cell? ⟨g, 2, none⟩ = some (.int .u64 c) ∧ w.cell? ⟨g, 3, none⟩ = some (.int .u64 d) ∧ w.cell? ⟨g, 4, none⟩ = some (.int .i64 e) := by
  refine ⟨?_, ?_, ?_, ?_, ?_⟩ <;> (rw [cell_of_row w g _ _ 36 (0, 0) h]; rfl)
theorem Bx5.below {w w' : World} {B g : Nat} {x : V5} (h : Bx5 w g x) (hb : Below B w w') (hg : g < B) : Bx5 w' g x := (hb.block g hg).trans h
theorem one5 (a b c d e : Int) : (#[Value.int .i64 a, .int .i64 b, .int .u64 c, .int .u64 d, .int .i64 e] : Array Value).all (·.oneCell') = true := by
  refine all_oneCell_toArray (cs := [Value.int .i64 a, .int .i64 b, .int .u64 c, .int .u64 d, .int .i64 e]) fun v hv => ?_
  simp only [List.mem_cons, List.not_mem_nil, or_false] at hv
  rcases hv with rfl | rfl | rfl | rfl | rfl <;> rfl
theorem store_named {P : Program} {ops : Array Oper} {rest : List Oper} {op : Oper} {a : Act} {w w2 : World} {Q : Exit → Act → World → Prop} (hgd : op.guard = none) (ty : TypeId) (x y : Operand) (ho : op.op = .store ty x y)
    (b o : Nat) (cells : Array Value) (hx : a.eval x = .pointer (some ⟨b, o, none⟩)) (hy : a.eval y = .agg cells)
    (ht : w.there b o cells.size) (hi : (P.info? ty).map (·.size) = some cells.size) (h1 : cells.all (·.oneCell') = true) (hw : w.setCells b o cells.toList = w2)
    (h : wpList P ops Q rest (a.put op.dst undef) w2) : wpList P ops Q (op :: rest) a w :=
  wpList_store_mid hgd ty x y ho b o cells hx hy ht hi h1 (by rw [hw]; exact h)
/-- Five cells in line. -/
structure At5 (w : World) (p : Addr) (x : V5) : Prop where
  c0 : w.cell? p = some (.int .i64 x.kd)
  c1 : w.cell? ⟨p.block, p.off + 1, none⟩ = some (.int .i64 x.n)
  c2 : w.cell? ⟨p.block, p.off + 2, none⟩ = some (.int .u64 x.re)
  c3 : w.cell? ⟨p.block, p.off + 3, none⟩ = some (.int .u64 x.im)
  c4 : w.cell? ⟨p.block, p.off + 4, none⟩ = some (.int .i64 x.ref)
theorem At5.old {w w' : World} {p : Addr} {x : V5} (h : At5 w p x) (hb : ∀ k, k < w.heap.size → w'.heap[k]? = w.heap[k]?) : At5 w' p x :=
  ⟨cell_old h.c0 hb, cell_old h.c1 hb, cell_old h.c2 hb, cell_old h.c3 hb, cell_old h.c4 hb⟩
structure N2 where
  kd : Int
  fs : List V5
deriving DecidableEq
structure G3 where
  ns : List N2
  rs : List Int
  ws : List Int
deriving DecidableEq
def zN : N2 := ⟨0, []⟩
def k2 : Kd N2 := Kd.iso (Kd.pair (Kd.int .i64) (Kd.slice 36 k5)) (fun x : N2 => (x.kd, x.fs))
def k3 : Kd G3 := Kd.iso (Kd.pair (Kd.slice 33 k2) (Kd.pair (Kd.slice 3 (Kd.int .i64)) (Kd.slice 3 (Kd.int .i64)))) (fun x : G3 => (x.ns, x.rs, x.ws))
/-- A row of values is read. -/
def Fv (w : World) (A : Option Addr) (l : List V5) : Prop := ∀ i, i < l.length → ∃ ad, A = some ad ∧ At5 w (ad.add (i * 5)) (l.getD i z5)
theorem Fv.old {w w' : World} {A : Option Addr} {l : List V5} (h : Fv w A l) (hb : ∀ k, k < w.heap.size → w'.heap[k]? = w.heap[k]?) : Fv w' A l := by
  intro i hi
  obtain ⟨ad, e, hc⟩ := h i hi
  exact ⟨ad, e, hc.old hb⟩
/-- A node at a place. -/
def At2 (w : World) (p : Addr) (x : N2) : Prop := w.cell? p = some (.int .i64 x.kd) ∧ ∃ A c, w.cell? ⟨p.block, p.off + 1, none⟩ = some (.slice A x.fs.length c) ∧ x.fs.length ≤ c ∧ Fv w A x.fs
theorem At2.old {w w' : World} {p : Addr} {x : N2} (h : At2 w p x) (hb : ∀ k, k < w.heap.size → w'.heap[k]? = w.heap[k]?) : At2 w' p x := by
  obtain ⟨h0, A, c, h1, hl, hf⟩ := h
  exact ⟨cell_old h0 hb, A, c, cell_old h1 hb, hl, hf.old hb⟩
def Nv (w : World) (A : Option Addr) (l : List N2) : Prop := ∀ i, i < l.length → ∃ ad, A = some ad ∧ At2 w (ad.add (i * 2)) (l.getD i zN)
theorem Nv.old {w w' : World} {A : Option Addr} {l : List N2} (h : Nv w A l) (hb : ∀ k, k < w.heap.size → w'.heap[k]? = w.heap[k]?) : Nv w' A l := by
  intro i hi
  obtain ⟨ad, e, hc⟩ := h i hi
  exact ⟨ad, e, hc.old hb⟩
/-- A graph, as it is handed: three slices. -/
def GAt (w : World) (v : Value) (g : G3) : Prop := ∃ AN cN AR cR AW cW, v = .agg #[.slice AN g.ns.length cN, .slice AR g.rs.length cR, .slice AW g.ws.length cW] ∧ g.ns.length ≤ cN ∧ g.rs.length ≤ cR ∧ g.ws.length ≤ cW ∧ Nv w AN g.ns ∧ Rd w AR g.rs ∧ Rd w AW g.ws
theorem GAt.old {w w' : World} {v : Value} {g : G3} (h : GAt w v g) (hb : ∀ k, k < w.heap.size → w'.heap[k]? = w.heap[k]?) : GAt w' v g := by
  obtain ⟨AN, cN, AR, cR, AW, cW, e, h1, h2, h3, a, b, c⟩ := h
  exact ⟨AN, cN, AR, cR, AW, cW, e, h1, h2, h3, a.old hb, b.below hb, c.below hb⟩
theorem GAt.below {w w' : World} {v : Value} {g : G3} (h : GAt w v g) (hb : Below w.heap.size w w') : GAt w' v g := h.old hb.block
theorem fd_C {w : World} {A : Option Addr} {n : Nat} {l : List V5} (h : Kd.C k5 w A n l) (hn : l.length ≤ n) : Fv w A l := by
  intro i hi
  obtain ⟨ad, c, e, _, hK, hc0⟩ := Kd.C_get h z5 i (by omega) (by omega)
  rw [Int.toNat_natCast] at hc0 hK
  have hc : ∀ j u, c[j]? = some u → w.cell? (ad.add (i * 5 + j)) = some u := hc0
  obtain rfl := k5_open hK
  refine ⟨ad, e, hc 0 _ rfl, ?_, ?_, ?_, ?_⟩
  all_goals (rw [← add_field _ _ _ (by omega)]; exact hc _ _ rfl)
theorem k2_open {w : World} {x : N2} {cs : List Value} (h : k2.K w x cs) : ∃ A c, cs = [.int .i64 x.kd, .slice A x.fs.length c] ∧ x.fs.length ≤ c ∧ Kd.C k5 w A x.fs.length x.fs := by
  obtain ⟨_, _, rfl, rfl, ⟨A, c, rfl, hl, hC⟩⟩ := h
  exact ⟨A, c, rfl, hl, hC⟩
theorem nd_C {w : World} {A : Option Addr} {n : Nat} {l : List N2} (h : Kd.C k2 w A n l) (hn : l.length ≤ n) : Nv w A l := by
  intro i hi
  obtain ⟨ad, c, e, _, hK, hc0⟩ := Kd.C_get h zN i (by omega) (by omega)
  rw [Int.toNat_natCast] at hc0 hK
  have hc : ∀ j u, c[j]? = some u → w.cell? (ad.add (i * 2 + j)) = some u := hc0
  obtain ⟨A1, c1, rfl, hl, hC⟩ := k2_open hK
  refine ⟨ad, e, hc 0 _ rfl, A1, c1, ?_, hl, fd_C hC (Nat.le_refl _)⟩
  rw [← add_field _ _ _ (by omega)]; exact hc _ _ rfl
def ok2 (x : N2) : Prop := wf64 x.kd ∧ x.fs.length ≤ maxLen ∧ ∀ y ∈ x.fs, ok5 y
def ok3 (x : G3) : Prop := (x.ns.length ≤ maxLen ∧ ∀ y ∈ x.ns, ok2 y) ∧ (x.rs.length ≤ maxLen ∧ ∀ y ∈ x.rs, wf64 y) ∧ x.ws.length ≤ maxLen ∧ ∀ y ∈ x.ws, wf64 y
theorem opens_n2 : Op.Opens Tryd.prog 33 k2 ok2 := by
  have h := Op.opens_iso (fun x : N2 => (x.kd, x.fs)) (fun y => N2.mk y.1 y.2) (fun _ => rfl)
    (Op.opens_struct Tryd.underlying33 (by kernel_rfl) (Op.opensF_cons rfl (by kernel_rfl) (Op.opens_int Tryd.underlying3) (Op.opensF_last rfl (by kernel_rfl) (Op.opens_slice (n := 36) Tryd.underlying31 (by kernel_rfl) opens_v5))))
  intro H enc w base spare held fuel cs x hx
  obtain ⟨y, hy, o⟩ := h H enc w base spare held fuel cs x hx
  exact ⟨y, hy, o⟩
theorem opens_g3 : Op.Opens Tryd.prog 25 k3 ok3 := by
  have h := Op.opens_iso (fun x : G3 => (x.ns, x.rs, x.ws)) (fun y => G3.mk y.1 y.2.1 y.2.2) (fun _ => rfl)
    (Op.opens_struct Tryd.underlying25 (by kernel_rfl) (Op.opensF_cons rfl (by kernel_rfl) (Op.opens_slice (n := 33) Tryd.underlying22 (by kernel_rfl) opens_n2)
      (Op.opensF_cons rfl (by kernel_rfl) (Op.opens_slice (n := 3) Tryd.underlying23 (by kernel_rfl) (Op.opens_int Tryd.underlying3)) (Op.opensF_last rfl (by kernel_rfl) (Op.opens_slice (n := 3) Tryd.underlying23 (by kernel_rfl) (Op.opens_int Tryd.underlying3))))))
  intro H enc w base spare held fuel cs x hx
  obtain ⟨y, hy, o⟩ := h H enc w base spare held fuel cs x hx
  exact ⟨y, hy, o⟩
theorem gat_of {w w' : World} {r : Reach} {base : Nat} {v : Value} {x : G3} (h : Value.okWide Tryd.prog w r base 25 v) (hk : k3.K w' x v.cells.toList) : GAt w' v x := by
  obtain ⟨cs, rfl, _⟩ := okWide_struct Tryd.underlying25 h
  obtain ⟨c0, c1, e, ⟨AN, cN, rfl, hN, hn⟩, ⟨c2, c3, e1, ⟨AR, cR, rfl, hR, hr⟩, ⟨AW, cW, rfl, hW, hw⟩⟩⟩ := hk
  subst e1
  have : cs = #[.slice AN x.ns.length cN, .slice AR x.rs.length cR, .slice AW x.ws.length cW] := by
    have : cs.toList = [.slice AN x.ns.length cN, .slice AR x.rs.length cR, .slice AW x.ws.length cW] := e
    rw [← this]
  exact ⟨AN, cN, AR, cR, AW, cW, by rw [this], hN, hR, hW, nd_C hn (Nat.le_refl _), rd_C hr, rd_C hw⟩
end Go.Proofs.YtdgclpgjoanimaaDoor.Ba
