/- Types and configs as they lie, rows of ints, small laws of worlds. -/
import Derived.Test.YtlmlckidgfnhdaaRows
import Derived.Test.YtlmlckidgfnhdaaOpen
import Derived.Test.YtlmlckidgfnhdaaScope
import Derived.WalkKit
import Derived.WalkSpells
import Derived.WalkLawsBesides
import Derived.WalkMore
import Derived.Lib.Hide
import Derived.Maps.AppendAt
import Derived.WalkArith
import Derived.IntWalk
import Derived.RegionTactic
import Derived.Deep.MidRow
import Derived.Deep.RegionHeld3
import Derived.Outline
namespace Go.Proofs.Ytlmlckidgfnhdaa.Ba
open Go.RowKit Go.ChangeShapes Go.WideShapes Go.Proofs.YtlmlckidgfnhdaaW.PrintWords
set_option linter.unusedVariables false
theorem size_al (w : World) (b : Obj) : (w.alloc b).heap.size = w.heap.size + 1 := by
  show (w.heap.push b).size = _
  rw [Array.size_push]
theorem info3 : (Try.prog.info? 3).map (fun i => (i.zero, i.size, i.bytes)) = some (some (.int .i64 0), 1, 8) := by kernel_rfl
def wf64 (n : Int) : Prop := (Lit.int .i64 n).wf = true
theorem wf_small {n : Int} (h0 : -100000000 ≤ n) (h1 : n ≤ 100000000) : (Lit.int .i64 n).wf = true := Go.WalkArith.wf_i64 ⟨by omega, by omega⟩
theorem grown_set (w : World) (g k : Nat) (v : Value) : w.grownBy (w.setCell ⟨g, k, none⟩ v) (some g) :=
  ⟨rfl, rfl, rfl, by simp [World.setCell], fun j _ hne => Below.heap_setCell w _ v j (fun e => hne (by rw [e]))⟩
/-- A row of ints is read: cell by cell. -/
def Rd (w : World) (A : Option Addr) (l : List Int) : Prop := ∀ i, i < l.length → ∃ ad, A = some ad ∧ w.cell? (ad.add i) = some (.int .i64 (l.getD i 0))
theorem cell_old {w w' : World} {a : Addr} {v : Value} (hc : w.cell? a = some v) (hb : ∀ k, k < w.heap.size → w'.heap[k]? = w.heap[k]?) : w'.cell? a = some v := by
  rw [← hc]
  have hlt : a.block < w.heap.size := by
    cases hh : w.heap[a.block]? with
    | none =>
      unfold World.cell? at hc
      rw [hh] at hc
      simp at hc
    | some x => exact (Array.getElem?_eq_some_iff.1 hh).1
  unfold World.cell?
  rw [hb _ hlt]
theorem Rd.below {w w' : World} {A : Option Addr} {l : List Int} (h : Rd w A l) (hb : ∀ k, k < w.heap.size → w'.heap[k]? = w.heap[k]?) : Rd w' A l := by
  intro i hi
  obtain ⟨ad, e, hc⟩ := h i hi
  exact ⟨ad, e, cell_old hc hb⟩
theorem rd_C {w : World} {A : Option Addr} {l : List Int} (h : Kd.C (Kd.int .i64) w A l.length l) : Rd w A l := by
  intro i hi
  obtain ⟨ad, e, hc⟩ := Kd.at_int h i (by omega) (by omega)
  rw [Int.toNat_natCast] at hc
  exact ⟨ad, e, hc⟩
theorem mem_getD {α : Type} {l : List α} {i : Nat} {d : α} (h : i < l.length) : l.getD i d ∈ l := by
  rw [List.getD_eq_getElem?_getD, List.getElem?_eq_getElem h]
  exact List.getElem_mem h
theorem take_snoc {α : Type} (l : List α) (d : α) (k : Nat) (h : k < l.length) : l.take (k + 1) = l.take k ++ [l.getD k d] := by
  rw [List.take_add_one, List.getD_eq_getElem?_getD, List.getElem?_eq_getElem h]
  rfl
theorem all_take_snoc {α : Type} {p : α → Bool} {l : List α} {d : α} {k : Nat} (h : (l.take k).all p = true) (hk : k < l.length) : (l.take (k + 1)).all p = p (l.getD k d) := by
  rw [take_snoc l d k hk, List.all_append, h, Bool.true_and, List.all_cons, List.all_nil, Bool.and_true]
theorem all_no {α : Type} {p : α → Bool} {l : List α} {d : α} {k : Nat} (h : p (l.getD k d) = false) (hk : k < l.length) : l.all p = false := by
  rw [List.all_eq_false]
  exact ⟨_, mem_getD hk, by rw [h]; decide⟩
def BoolPost (b : Bool) (w : World) (e : Ending) (w' : World) : Prop := e = .returned (.bool b) ∧ Below w.heap.size w w'
def IntPost (n : Int) (w : World) (e : Ending) (w' : World) : Prop := e = .returned (.int .i64 n) ∧ Below w.heap.size w w'
/-- A config: its types, its blocks of each class, its roots, weak roots, log. -/
structure Cf where
  ks : List (List Int)
  b0 : Int
  b1 : Int
  b2 : Int
  b3 : Int
  ro : Int
  we : Int
  lg : Int
deriving DecidableEq
def kK : Kd (List Int) := Kd.slice 3 (Kd.int .i64)
def k8 : Kd Cf := Kd.iso (Kd.pair (Kd.slice 54 kK) (Kd.pair (Kd.pair (Kd.int .i64) (Kd.pair (Kd.int .i64) (Kd.pair (Kd.int .i64) (Kd.int .i64)))) (Kd.pair (Kd.int .i64) (Kd.pair (Kd.int .i64) (Kd.int .i64)))))
  (fun x : Cf => (x.ks, (x.b0, x.b1, x.b2, x.b3), x.ro, x.we, x.lg))
/-- A row of types is read. -/
def Ks (w : World) (A : Option Addr) (l : List (List Int)) : Prop := ∀ i, i < l.length → ∃ ad, A = some ad ∧ ∃ A1 c1, w.cell? (ad.add i) = some (.slice A1 (l.getD i []).length c1) ∧ (l.getD i []).length ≤ c1 ∧ Rd w A1 (l.getD i [])
theorem Ks.old {w w' : World} {A : Option Addr} {l : List (List Int)} (h : Ks w A l) (hb : ∀ k, k < w.heap.size → w'.heap[k]? = w.heap[k]?) : Ks w' A l := by
  intro i hi
  obtain ⟨ad, e, A1, c1, hc, hl, hr⟩ := h i hi
  exact ⟨ad, e, A1, c1, cell_old hc hb, hl, hr.below hb⟩
def cfv (A : Option Addr) (n k : Nat) (b0 b1 b2 b3 ro we lg : Int) : Value := .agg #[.slice A n k, .int .i64 b0, .int .i64 b1, .int .i64 b2, .int .i64 b3, .int .i64 ro, .int .i64 we, .int .i64 lg]
def CAt (w : World) (v : Value) (c : Cf) : Prop := ∃ A k, v = .agg #[.slice A c.ks.length k, .int .i64 c.b0, .int .i64 c.b1, .int .i64 c.b2, .int .i64 c.b3, .int .i64 c.ro, .int .i64 c.we, .int .i64 c.lg] ∧ c.ks.length ≤ k ∧ Ks w A c.ks
def okC (x : Cf) : Prop := (x.ks.length ≤ maxLen ∧ ∀ y ∈ x.ks, y.length ≤ maxLen ∧ ∀ z ∈ y, wf64 z) ∧ (wf64 x.b0 ∧ wf64 x.b1 ∧ wf64 x.b2 ∧ wf64 x.b3) ∧ wf64 x.ro ∧ wf64 x.we ∧ wf64 x.lg
theorem opens_kind : Op.Opens Try.prog 54 kK (fun y => y.length ≤ maxLen ∧ ∀ z ∈ y, wf64 z) :=
  Op.opens_struct Try.underlying54 (by kernel_rfl) (Op.opensF_last rfl (by kernel_rfl) (Op.opens_slice (n := 3) Try.underlying52 (by kernel_rfl) (Op.opens_int Try.underlying3)))
theorem opens_arr : Op.Opens Try.prog 23 (Kd.pair (Kd.int .i64) (Kd.pair (Kd.int .i64) (Kd.pair (Kd.int .i64) (Kd.int .i64)))) (fun y => wf64 y.1 ∧ wf64 y.2.1 ∧ wf64 y.2.2.1 ∧ wf64 y.2.2.2) := by
  intro H enc w base spare held fuel cs x hx
  obtain ⟨xs, m, _, _, hl, hxs, hi⟩ := DataW.trod_array Try.underlying23 hx
  have h4 : Try.prog.cellsOf 23 = 4 := by kernel_rfl
  have h1 : Try.prog.cellsOf 3 = 1 := by kernel_rfl
  rw [h4] at hl
  rw [h1] at hi
  match cs, hl with
  | [c0, c1, c2, c3], _ =>
    have get : ∀ i (hi4 : i < 4) (c : Value), ((([c0, c1, c2, c3] : List Value).drop (i * 1)).take 1 = [c]) → ∃ n, c = .int .i64 n ∧ wf64 n := by
      intro i hi4 c hc
      have h := hi i hi4
      rw [hc, List.getElem?_eq_getElem (by omega)] at h
      obtain ⟨n, hcn, _, hw⟩ := DataW.trod_int Try.underlying3 h
      exact ⟨n, by simpa using hcn, hw⟩
    obtain ⟨n0, rfl, w0⟩ := get 0 (by omega) c0 rfl
    obtain ⟨n1, rfl, w1⟩ := get 1 (by omega) c1 rfl
    obtain ⟨n2, rfl, w2⟩ := get 2 (by omega) c2 rfl
    obtain ⟨n3, rfl, w3⟩ := get 3 (by omega) c3 rfl
    exact ⟨(n0, n1, n2, n3), ⟨_, _, rfl, rfl, ⟨_, _, rfl, rfl, ⟨_, _, rfl, rfl, rfl⟩⟩⟩, w0, w1, w2, w3⟩
theorem opens_cf : Op.Opens Try.prog 25 k8 okC := by
  have h := Op.opens_iso (fun x : Cf => (x.ks, (x.b0, x.b1, x.b2, x.b3), x.ro, x.we, x.lg)) (fun y => Cf.mk y.1 y.2.1.1 y.2.1.2.1 y.2.1.2.2.1 y.2.1.2.2.2 y.2.2.1 y.2.2.2.1 y.2.2.2.2) (fun _ => rfl)
    (Op.opens_struct Try.underlying25 (by kernel_rfl) (Op.opensF_cons rfl (by kernel_rfl) (Op.opens_slice (n := 54) Try.underlying22 (by kernel_rfl) opens_kind) (Op.opensF_cons rfl (by kernel_rfl) opens_arr
      (Op.opensF_cons rfl (by kernel_rfl) (Op.opens_int Try.underlying3) (Op.opensF_cons rfl (by kernel_rfl) (Op.opens_int Try.underlying3) (Op.opensF_last rfl (by kernel_rfl) (Op.opens_int Try.underlying3)))))))
  intro H enc w base spare held fuel cs x hx
  obtain ⟨y, hy, o⟩ := h H enc w base spare held fuel cs x hx
  exact ⟨y, hy, o⟩
theorem ks_C {w : World} {A : Option Addr} {n : Nat} {l : List (List Int)} (h : Kd.C kK w A n l) (hn : l.length ≤ n) : Ks w A l := by
  intro i hi
  obtain ⟨ad, c, e, _, hK, hc0⟩ := Kd.C_get h ([] : List Int) i (by omega) (by omega)
  rw [Int.toNat_natCast] at hc0 hK
  have hc : ∀ j u, c[j]? = some u → w.cell? (ad.add (i * 1 + j)) = some u := hc0
  obtain ⟨A1, c1, rfl, hl, hC⟩ := hK
  have := hc 0 _ rfl
  rw [Nat.mul_one, Nat.add_zero] at this
  exact ⟨ad, e, A1, c1, this, hl, rd_C hC⟩
theorem cat_of {w w' : World} {r : Reach} {base : Nat} {v : Value} {x : Cf} (h : Value.okWide Try.prog w r base 25 v) (hk : k8.K w' x v.cells.toList) : CAt w' v x := by
  obtain ⟨cs, rfl, _⟩ := okWide_struct Try.underlying25 h
  obtain ⟨c0, c1, e, ⟨A, k, rfl, hN, hn⟩, ⟨c2, c3, e1, ⟨d0, d1, e2, rfl, ⟨d2, d3, e3, rfl, ⟨d4, d5, e4, rfl, rfl⟩⟩⟩, ⟨c4, c5, e5, rfl, ⟨c6, c7, e6, rfl, rfl⟩⟩⟩⟩ := hk
  subst e6 e5 e4 e3 e2 e1
  refine ⟨A, k, ?_, hN, ks_C hn (Nat.le_refl _)⟩
  have : cs.toList = [.slice A x.ks.length k, .int .i64 x.b0, .int .i64 x.b1, .int .i64 x.b2, .int .i64 x.b3, .int .i64 x.ro, .int .i64 x.we, .int .i64 x.lg] := e
  rw [show cs = [.slice A x.ks.length k, .int .i64 x.b0, .int .i64 x.b1, .int .i64 x.b2, .int .i64 x.b3, .int .i64 x.ro, .int .i64 x.we, .int .i64 x.lg].toArray by rw [← this]]
end Go.Proofs.Ytlmlckidgfnhdaa.Ba
