/- Values and writes as they lie (five cells, eight cells), rows of ints and of writes of the call's own, small laws of worlds. -/
import Derived.Test.YtmdjbldmfmoaaaaRows
import Derived.Test.YtmdjbldmfmoaaaaOpen
import Derived.Test.YtmdjbldmfmoaaaaScope
import Derived.WalkKit
import Derived.WalkSpells
import Derived.WalkLawsBesides
import Derived.WalkMore
import Derived.Lib.Hide
import Derived.Maps.AppendAt
import Derived.WalkArith
import Derived.IntWalk
import Derived.RegionTactic
import Derived.Deep.MidRow
import Derived.Deep.RegionHeld3
import Derived.Outline
namespace Go.Proofs.Ytmdjbldmfmoaaaa.Ba
open Go.RowKit Go.ChangeShapes Go.WideShapes Go.Proofs.YtmdjbldmfmoaaaaW.PrintWords
set_option linter.unusedVariables false
theorem size_al (w : World) (b : Obj) : (w.alloc b).heap.size = w.heap.size + 1 := by
  show (w.heap.push b).size = _
  rw [Array.size_push]
theorem info3 : (Try.prog.info? 3).map (fun i => (i.zero, i.size, i.bytes)) = some (some (.int .i64 0), 1, 8) := by kernel_rfl
def wf64 (n : Int) : Prop := (Lit.int .i64 n).wf = true
theorem wf_small {n : Int} (h0 : -100000000 ≤ n) (h1 : n ≤ 100000000) : (Lit.int .i64 n).wf = true := Go.WalkArith.wf_i64 ⟨by omega, by omega⟩
theorem grown_set (w : World) (g k : Nat) (v : Value) : w.grownBy (w.setCell ⟨g, k, none⟩ v) (some g) :=
  ⟨rfl, rfl, rfl, by simp [World.setCell], fun j _ hne => Below.heap_setCell w _ v j (fun e => hne (by rw [e]))⟩
theorem grown_trans {a b c : World} {r : Option Nat} (h : a.grownBy b r) (k : b.grownBy c r) : a.grownBy c r :=
  ⟨k.os.trans h.os, k.tape.trans h.tape, k.output.trans h.output, Nat.le_trans h.size k.size, fun i hi hne => (k.block i (Nat.lt_of_lt_of_le hi h.size) hne).trans (h.block i hi hne)⟩
theorem own_below {w w1 : World} {base base' n : Nat} {v : Value} {xs : List Value} (h : w.ownsRow base 3 1 v n xs) (hb : Below w.heap.size w w1) (hle : base' ≤ base) : w1.ownsRow base' 3 1 v n xs :=
  own_weaken (own_move h fun k hk => hb.block k (h.lt k hk).2) hle
/-- A row of ints is read: cell by cell. -/
def Rd (w : World) (A : Option Addr) (l : List Int) : Prop := ∀ i, i < l.length → ∃ ad, A = some ad ∧ w.cell? (ad.add i) = some (.int .i64 (l.getD i 0))
theorem cell_old {w w' : World} {a : Addr} {v : Value} (hc : w.cell? a = some v) (hb : ∀ k, k < w.heap.size → w'.heap[k]? = w.heap[k]?) : w'.cell? a = some v := by
  rw [← hc]
  have hlt : a.block < w.heap.size := by
    cases hh : w.heap[a.block]? with
    | none =>
      unfold World.cell? at hc
      rw [hh] at hc
      simp at hc
    | some x => exact (Array.getElem?_eq_some_iff.1 hh).1
  unfold World.cell?
  rw [hb _ hlt]
theorem Rd.below {w w' : World} {A : Option Addr} {l : List Int} (h : Rd w A l) (hb : ∀ k, k < w.heap.size → w'.heap[k]? = w.heap[k]?) : Rd w' A l := by
  intro i hi
  obtain ⟨ad, e, hc⟩ := h i hi
  exact ⟨ad, e, cell_old hc hb⟩
theorem own_rd {w : World} {base n : Nat} {v : Value} {l : List Int} (h : w.ownsRow base 3 1 v n (l.map (Value.int .i64))) : n = l.length ∧ ∃ A c, v = .slice A l.length c ∧ Rd w A l := by
  have hn : n = l.length := by have := h.1; rw [List.length_map] at this; omega
  subst hn
  refine ⟨rfl, ?_⟩
  rcases h.2 with ⟨rfl, h0⟩ | ⟨g, cap, cur, rfl, _, _, _⟩
  · exact ⟨none, 0, by rw [h0], fun i hi => by omega⟩
  · refine ⟨_, _, rfl, fun i hi => ⟨_, rfl, ?_⟩⟩
    refine h.cells rfl i _ ?_
    rw [List.getElem?_map, List.getElem?_eq_getElem hi, List.getD_eq_getElem?_getD, List.getElem?_eq_getElem hi]
    rfl
theorem rd_C {w : World} {A : Option Addr} {l : List Int} (h : Kd.C (Kd.int .i64) w A l.length l) : Rd w A l := by
  intro i hi
  obtain ⟨ad, e, hc⟩ := Kd.at_int h i (by omega) (by omega)
  rw [Int.toNat_natCast] at hc
  exact ⟨ad, e, hc⟩
theorem mem_getD {α : Type} {l : List α} {i : Nat} {d : α} (h : i < l.length) : l.getD i d ∈ l := by
  rw [List.getD_eq_getElem?_getD, List.getElem?_eq_getElem h]
  exact List.getElem_mem h
theorem take_snoc {α : Type} (l : List α) (d : α) (k : Nat) (h : k < l.length) : l.take (k + 1) = l.take k ++ [l.getD k d] := by
  rw [List.take_add_one, List.getD_eq_getElem?_getD, List.getElem?_eq_getElem h]
  rfl
/-- Two rows of the same ints are the same. -/
theorem cell_heap {w wr : World} (h : wr.heap = w.heap) (a : Addr) : wr.cell? a = w.cell? a := by
  unfold World.cell?
  rw [h]
structure V5 where
  kd : Int
  n : Int
  re : Int
  im : Int
  ref : Int
deriving DecidableEq
structure W8 where
  kind : Int
  obj : Int
  field : Int
  v : V5
deriving DecidableEq
def z5 : V5 := ⟨0, 0, 0, 0, 0⟩
def z8 : W8 := ⟨0, 0, 0, z5⟩
def V5.cs (x : V5) : List Value := [.int .i64 x.kd, .int .i64 x.n, .int .u64 x.re, .int .u64 x.im, .int .i64 x.ref]
def W8.cs (x : W8) : List Value := [.int .i64 x.kind, .int .i64 x.obj, .int .i64 x.field, .int .i64 x.v.kd, .int .i64 x.v.n, .int .u64 x.v.re, .int .u64 x.v.im, .int .i64 x.v.ref]
def k5 : Kd V5 := Kd.iso (Kd.pair (Kd.int .i64) (Kd.pair (Kd.int .i64) (Kd.pair (Kd.int .u64) (Kd.pair (Kd.int .u64) (Kd.int .i64))))) (fun x : V5 => (x.kd, x.n, x.re, x.im, x.ref))
def k8 : Kd W8 := Kd.iso (Kd.pair (Kd.int .i64) (Kd.pair (Kd.int .i64) (Kd.pair (Kd.int .i64) k5))) (fun x : W8 => (x.kind, x.obj, x.field, x.v))
theorem k5_open {w : World} {x : V5} {cs : List Value} (h : k5.K w x cs) : cs = x.cs := by
  obtain ⟨_, _, rfl, rfl, ⟨_, _, rfl, rfl, ⟨_, _, rfl, rfl, ⟨_, _, rfl, rfl, rfl⟩⟩⟩⟩ := h
  rfl
theorem k8_open {w : World} {x : W8} {cs : List Value} (h : k8.K w x cs) : cs = x.cs := by
  obtain ⟨_, _, rfl, rfl, ⟨_, _, rfl, rfl, ⟨_, _, rfl, rfl, h5⟩⟩⟩ := h
  obtain rfl := k5_open h5
  rfl
def ok5 (x : V5) : Prop := wf64 x.kd ∧ wf64 x.n ∧ (Lit.int .u64 x.re).wf = true ∧ (Lit.int .u64 x.im).wf = true ∧ wf64 x.ref
def ok8 (x : W8) : Prop := wf64 x.kind ∧ wf64 x.obj ∧ wf64 x.field ∧ ok5 x.v
theorem opens_v5 : Op.Opens Try.prog 28 k5 ok5 := by
  have h := Op.opens_iso (fun x : V5 => (x.kd, x.n, x.re, x.im, x.ref)) (fun y => V5.mk y.1 y.2.1 y.2.2.1 y.2.2.2.1 y.2.2.2.2) (fun _ => rfl)
    (Op.opens_struct Try.underlying28 (by kernel_rfl) (Op.opensF_cons rfl (by kernel_rfl) (Op.opens_int Try.underlying3) (Op.opensF_cons rfl (by kernel_rfl) (Op.opens_int Try.underlying2)
      (Op.opensF_cons rfl (by kernel_rfl) (Op.opens_int Try.underlying24) (Op.opensF_cons rfl (by kernel_rfl) (Op.opens_int Try.underlying24) (Op.opensF_last rfl (by kernel_rfl) (Op.opens_int Try.underlying3)))))))
  intro H enc w base spare held fuel cs x hx
  obtain ⟨y, hy, o⟩ := h H enc w base spare held fuel cs x hx
  exact ⟨y, hy, o⟩
theorem opens_w8 : Op.Opens Try.prog 31 k8 ok8 := by
  have h := Op.opens_iso (fun x : W8 => (x.kind, x.obj, x.field, x.v)) (fun y => W8.mk y.1 y.2.1 y.2.2.1 y.2.2.2) (fun _ => rfl)
    (Op.opens_struct Try.underlying31 (by kernel_rfl) (Op.opensF_cons rfl (by kernel_rfl) (Op.opens_int Try.underlying3) (Op.opensF_cons rfl (by kernel_rfl) (Op.opens_int Try.underlying3)
      (Op.opensF_cons rfl (by kernel_rfl) (Op.opens_int Try.underlying3) (Op.opensF_last rfl (by kernel_rfl) opens_v5)))))
  intro H enc w base spare held fuel cs x hx
  obtain ⟨y, hy, o⟩ := h H enc w base spare held fuel cs x hx
  exact ⟨y, hy, o⟩
def agg5 (v : V5) : Value := .agg #[.int .i64 v.kd, .int .i64 v.n, .int .u64 v.re, .int .u64 v.im, .int .i64 v.ref]
def agg8 (x : W8) : Value := .agg #[.int .i64 x.kind, .int .i64 x.obj, .int .i64 x.field, .int .i64 x.v.kd, .int .i64 x.v.n, .int .u64 x.v.re, .int .u64 x.v.im, .int .i64 x.v.ref]
theorem agg5_of {w w' : World} {r : Reach} {base : Nat} {v : Value} {x : V5} (h : Value.okWide Try.prog w r base 28 v) (hk : k5.K w' x v.cells.toList) : v = agg5 x := by
  obtain ⟨cs, rfl, _⟩ := okWide_struct Try.underlying28 h
  have e : cs.toList = x.cs := k5_open hk
  have : cs = x.cs.toArray := by rw [← e]
  rw [this]
  rfl
theorem agg8_of {w w' : World} {r : Reach} {base : Nat} {v : Value} {x : W8} (h : Value.okWide Try.prog w r base 31 v) (hk : k8.K w' x v.cells.toList) : v = agg8 x := by
  obtain ⟨cs, rfl, _⟩ := okWide_struct Try.underlying31 h
  have e : cs.toList = x.cs := k8_open hk
  have : cs = x.cs.toArray := by rw [← e]
  rw [this]
  rfl
/-- Eight cells in line. -/
structure At8 (w : World) (p : Addr) (x : W8) : Prop where
  c0 : w.cell? p = some (.int .i64 x.kind)
  c1 : w.cell? ⟨p.block, p.off + 1, none⟩ = some (.int .i64 x.obj)
  c2 : w.cell? ⟨p.block, p.off + 2, none⟩ = some (.int .i64 x.field)
  c3 : w.cell? ⟨p.block, p.off + 3, none⟩ = some (.int .i64 x.v.kd)
  c4 : w.cell? ⟨p.block, p.off + 4, none⟩ = some (.int .i64 x.v.n)
  c5 : w.cell? ⟨p.block, p.off + 5, none⟩ = some (.int .u64 x.v.re)
  c6 : w.cell? ⟨p.block, p.off + 6, none⟩ = some (.int .u64 x.v.im)
  c7 : w.cell? ⟨p.block, p.off + 7, none⟩ = some (.int .i64 x.v.ref)
theorem at_W8 {w : World} {A : Option Addr} {n : Nat} {xs : List W8} (h : Kd.C k8 w A n xs) (i : Nat) (h1 : i < n) : ∃ ad, A = some ad ∧ At8 w (ad.add (i * 8)) (xs.getD i z8) := by
  obtain ⟨ad, c, e, _, hK, hc0⟩ := Kd.C_get h z8 i (by omega) (by omega)
  rw [Int.toNat_natCast] at hc0 hK
  have hc : ∀ j u, c[j]? = some u → w.cell? (ad.add (i * 8 + j)) = some u := hc0
  obtain rfl := k8_open hK
  refine ⟨ad, e, hc 0 _ rfl, ?_, ?_, ?_, ?_, ?_, ?_, ?_⟩
  all_goals (rw [← add_field _ _ _ (by omega)]; exact hc _ _ rfl)
theorem k8_K (w : World) (x : W8) : k8.K w x x.cs :=
  ⟨[_], _, rfl, rfl, ⟨[_], _, rfl, rfl, ⟨[_], _, rfl, rfl, ⟨[_], _, rfl, rfl, ⟨[_], _, rfl, rfl, ⟨[_], _, rfl, rfl, ⟨[_], _, rfl, rfl, rfl⟩⟩⟩⟩⟩⟩⟩
theorem k8_KM {w W : World} {base : Nat} {ok : Nat → Prop} {x : W8} {cs : List Value} (h : k8.K w x cs) : k8.M W base ok x cs := h
theorem k8_MK {W : World} {base : Nat} {ok : Nat → Prop} {x : W8} {cs : List Value} (h : k8.M W base ok x cs) : k8.K W x cs := h
theorem k8_M (W : World) (base : Nat) (ok : Nat → Prop) (x : W8) : k8.M W base ok x x.cs := k8_KM (k8_K W x)
def zW : Value := .agg #[.int .i64 0, .int .i64 0, .int .i64 0, .int .i64 0, .int .i64 0, .int .u64 0, .int .u64 0, .int .i64 0]
theorem infoW : (Try.prog.info? 31).map (fun i => (i.zero, i.size, i.bytes)) = some (some zW, k8.sz, 64) := by kernel_rfl
theorem infoV : (Try.prog.info? 28).map (·.size) = some 5 := by kernel_rfl
theorem infoW8 : (Try.prog.info? 31).map (·.size) = some 8 := by kernel_rfl
/-- A row of writes of the call's own. -/
def R8 (w : World) (base : Nat) (v : Value) (l : List W8) : Prop := k8.R 31 w base (fun _ => True) v l
theorem R8.lit0 (w : World) (base : Nat) (h : base ≤ w.heap.size) : R8 (w.alloc (.cells #[] 31)) base (.slice (some ⟨w.heap.size, 0, none⟩) 0 0) [] :=
  ⟨fun _ _ => trivial, [], World.ownsRow_lit (base := base) (e := 31) (size := 8) w #[] 0 h (by decide) rfl, Reps.none _ _⟩
theorem R8.nil (w : World) (base : Nat) : R8 w base (.slice none 0 0) [] := Kd.R_nil _ _ _ _ _
theorem R8.reads {w : World} {base : Nat} {v : Value} {l : List W8} (h : R8 w base v l) : ∃ A c, v = .slice A l.length c ∧ l.length ≤ c ∧ Kd.C k8 w A l.length l := Kd.R_reads h
theorem R8.below {w w' : World} {base : Nat} {v : Value} {l : List W8} (h : R8 w base v l) (hb : Below w.heap.size w w') : R8 w' base v l := Kd.R_below h hb
theorem R8.alloc {w : World} {base : Nat} {v : Value} {l : List W8} (h : R8 w base v l) (o : Obj) : R8 (w.alloc o) base v l := Kd.R_alloc h o
theorem R8.lt {w : World} {base : Nat} {v : Value} {l : List W8} (h : R8 w base v l) (k : Nat) (hk : v.ownBlock = some k) : base ≤ k ∧ k < w.heap.size := ⟨Kd.R_base h k hk, Kd.R_lt h k hk⟩
/-- Only its own block counts. -/
theorem R8.move {w w' : World} {base : Nat} {v : Value} {l : List W8} (h : R8 w base v l) (hm : ∀ k, v.ownBlock = some k → w'.heap[k]? = w.heap[k]?) : R8 w' base v l := by
  obtain ⟨h0, inner, ho, hr⟩ := h
  exact ⟨h0, inner, own_move ho hm, hr.imp_ (fun _ _ hp => k8_KM (k8_MK hp))⟩
theorem R8.lower {w : World} {base base' : Nat} {v : Value} {l : List W8} (h : R8 w base v l) (hb : base' ≤ base) : R8 w base' v l := Kd.R_lower h hb
/-- A block of eight cells, a block of five. -/
def Bx8 (w : World) (g : Nat) (x : W8) : Prop := w.heap[g]? = some (.cells #[.int .i64 x.kind, .int .i64 x.obj, .int .i64 x.field, .int .i64 x.v.kd, .int .i64 x.v.n, .int .u64 x.v.re, .int .u64 x.v.im, .int .i64 x.v.ref] 31 (0, 0))
def Bx5 (w : World) (g : Nat) (x : V5) : Prop := w.heap[g]? = some (.cells #[.int .i64 x.kd, .int .i64 x.n, .int .u64 x.re, .int .u64 x.im, .int .i64 x.ref] 28 (0, 0))
theorem Bx8.cells {w : World} {g : Nat} {a b c d e f i j : Int} (h : Bx8 w g ⟨a, b, c, ⟨d, e, f, i, j⟩⟩) : w.cell? ⟨g, 0, none⟩ = some (.int .i64 a) ∧ w.cell? ⟨g, 1, none⟩ = some (.int .i64 b) ∧ w.cell? ⟨g, 2, none⟩ = some (.int .i64 c) ∧
    w.cell? ⟨g, 3, none⟩ = some (.int .i64 d) ∧ w.cell? ⟨g, 4, none⟩ = some (.int .i64 e) ∧ w.cell? ⟨g, 5, none⟩ = some (.int .u64 f) ∧ w.cell? ⟨g, 6, none⟩ = some (.int .u64 i) ∧ w.cell? ⟨g, 7, none⟩ = some (.int .i64 j) := by
  refine ⟨?_, ?_, ?_, ?_, ?_, ?_, ?_, ?_⟩ <;> (rw [cell_of_row w g _ _ 31 (0, 0) h]; rfl)
theorem Bx5.cells {w : World} {g : Nat} {a b c d e : Int} (h : Bx5 w g ⟨a, b, c, d, e⟩) : w.cell? ⟨g, 0, none⟩ = some (.int .i64 a) ∧ w.cell? ⟨g, 1, none⟩ = some (.int .i64 b) ∧ w.cell? ⟨g, 2, none⟩ = some (.int .u64 c) ∧ w.cell? ⟨g, 3, none⟩ = some (.int .u64 d) ∧ w.cell? ⟨g, 4, none⟩ = some (.int .i64 e) := by
  refine ⟨?_, ?_, ?_, ?_, ?_⟩ <;> (rw [cell_of_row w g _ _ 28 (0, 0) h]; rfl)
theorem Bx8.frozen {w : World} {g : Nat} {x : W8} (h : Bx8 w g x) (j : Nat) : w.frozen? ⟨g, j, none⟩ = false := blk_frozen h j
theorem Bx5.below {w w' : World} {B g : Nat} {x : V5} (h : Bx5 w g x) (hb : Below B w w') (hg : g < B) : Bx5 w' g x := (hb.block g hg).trans h
theorem Bx8.below {w w' : World} {B g : Nat} {x : W8} (h : Bx8 w g x) (hb : Below B w w') (hg : g < B) : Bx8 w' g x := (hb.block g hg).trans h
theorem one5 (a b c d e : Int) : (#[Value.int .i64 a, .int .i64 b, .int .u64 c, .int .u64 d, .int .i64 e] : Array Value).all (·.oneCell') = true := by
  refine all_oneCell_toArray (cs := [Value.int .i64 a, .int .i64 b, .int .u64 c, .int .u64 d, .int .i64 e]) fun v hv => ?_
  simp only [List.mem_cons, List.not_mem_nil, or_false] at hv
  rcases hv with rfl | rfl | rfl | rfl | rfl <;> rfl
theorem one8 (x : W8) : ∀ v ∈ x.cs, v.oneCell' = true := k8.K_one (k8_K (w := default) x)
theorem Bx8.there {w : World} {g : Nat} {x : W8} (h : Bx8 w g x) : w.there g 3 5 := by
  intro j hj
  refine ⟨?_, h.frozen _⟩
  rw [cell_of_row w g _ _ 31 (0, 0) h]
  have : j = 0 ∨ j = 1 ∨ j = 2 ∨ j = 3 ∨ j = 4 := by omega
  rcases this with rfl | rfl | rfl | rfl | rfl <;> rfl
theorem Bx8.store {w : World} {g : Nat} {x : W8} (h : Bx8 w g x) (r : V5) : ∃ w2, w.setCells g 3 r.cs = w2 ∧ Bx8 w2 g ⟨x.kind, x.obj, x.field, r⟩ ∧ w.grownBy w2 (some g) := by
  refine ⟨_, rfl, ?_, ?_⟩
  · obtain ⟨cur', h3, h4, h5⟩ := setCells_row r.cs 3 w _ h (by simp [V5.cs])
    unfold Bx8
    rw [h3]
    have : cur'.toList = [Value.int .i64 x.kind, .int .i64 x.obj, .int .i64 x.field] ++ r.cs := by
      have e : cur'.toList = cur'.toList.take (3 + r.cs.length) := (List.take_of_length_le (by rw [Array.length_toList, h4]; simp [V5.cs])).symm
      rw [e, h5]
      rfl
    have : cur' = ([Value.int .i64 x.kind, .int .i64 x.obj, .int .i64 x.field] ++ r.cs).toArray := by rw [← this]
    rw [this]
    rfl
  · obtain ⟨s1, s2, s3, s4⟩ := setCells_same g r.cs 3 w
    exact ⟨s1, s2, s3, by rw [s4]; exact Nat.le_refl _, fun k _ hk => setCells_far r.cs _ k (fun he => hk (by rw [he]))⟩
theorem Bx8.setObj {w : World} {g : Nat} {x : W8} (h : Bx8 w g x) (o : Int) : Bx8 (w.setCell ⟨g, 1, none⟩ (.int .i64 o)) g ⟨x.kind, o, x.field, x.v⟩ := by
  have := blk_set h 1 (.int .i64 o)
  exact this
theorem store_named {P : Program} {ops : Array Oper} {rest : List Oper} {op : Oper} {a : Act} {w w2 : World} {Q : Exit → Act → World → Prop} (hgd : op.guard = none) (ty : TypeId) (x y : Operand) (ho : op.op = .store ty x y)
    (b o : Nat) (cells : Array Value) (hx : a.eval x = .pointer (some ⟨b, o, none⟩)) (hy : a.eval y = .agg cells)
    (ht : w.there b o cells.size) (hi : (P.info? ty).map (·.size) = some cells.size) (h1 : cells.all (·.oneCell') = true) (hw : w.setCells b o cells.toList = w2)
    (h : wpList P ops Q rest (a.put op.dst undef) w2) : wpList P ops Q (op :: rest) a w :=
  wpList_store_mid hgd ty x y ho b o cells hx hy ht hi h1 (by rw [hw]; exact h)
end Go.Proofs.Ytmdjbldmfmoaaaa.Ba
