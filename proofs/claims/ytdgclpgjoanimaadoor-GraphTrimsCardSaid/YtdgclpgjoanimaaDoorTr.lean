/- Trim, by its contract. -/
import Derived.Test.YtdgclpgjoanimaaDoorTo
import Derived.Deep.RegionHeld3
import Derived.Deep.DeepMust
namespace Go.Proofs.YtdgclpgjoanimaaDoor.Tr
open Go.RowKit Go.ChangeShapes Go.WideShapes Go.Proofs.YtdgclpgjoanimaaDoorW.PrintWords Go.Proofs.YtdgclpgjoanimaaDoor.Ba Go.Proofs.YtdgclpgjoanimaaDoor.Ma Go.Proofs.YtdgclpgjoanimaaDoor.Mb Go.Proofs.YtdgclpgjoanimaaDoor.Pu Go.Proofs.YtdgclpgjoanimaaDoor.Wa Go.Proofs.YtdgclpgjoanimaaDoor.To
set_option linter.unusedVariables false
def placeF (W : List Int) (x : Int) : Int := if x ∈ W then (W.idxOf x : Int) else -1
def plF (W : List Int) (j : Nat) : Value := .int .i64 (placeF W (j : Int))
def placeL (n : Nat) (W : List Int) : List Int := (List.range n).map (fun i : Nat => placeF W (i : Int))
theorem placeL_len (n : Nat) (W : List Int) : (placeL n W).length = n := by simp [placeL]
theorem placeL_at (n : Nat) (W : List Int) (i : Nat) (h : i < n) : (placeL n W).getD i 0 = placeF W (i : Int) := by
  rw [List.getD_eq_getElem?_getD]
  simp [placeL, h]
def nodeT (g : G3) (pl : List Int) (x : Int) : N2 := ⟨(nd g x).kd, (nd g x).fs.map (toldP pl)⟩
def trimW (g : G3) (W : List Int) : G3 := ⟨W.map (nodeT g (placeL g.ns.length W)), movedL (placeL g.ns.length W) g.rs, movedL (placeL g.ns.length W) g.ws⟩
def trimL (g : G3) : G3 := if mayG g = true then trimW g (walkL g g.rs) else ⟨[], [], []⟩
def TrimPost (g : G3) (w : World) (e : Ending) (w' : World) : Prop := ∃ v, e = .returned v ∧ GAt w' v (trimL g) ∧ Below w.heap.size w w'
def negF (t : Nat) (j : Nat) : Value := .int .i64 (if j < t then -1 else 0)
theorem neg_step {w : World} {m n t : Nat} (h : w.rowIs m 3 n (negF t)) : (w.setCell ⟨m, t, none⟩ (.int .i64 (-1))).rowIs m 3 n (negF (t + 1)) := by
  refine (h.set t _).congr fun i hi => ?_
  unfold negF
  by_cases hit : i = t
  · subst hit; simp
  · rw [if_neg hit]
    have : i < t + 1 ↔ i < t := by omega
    simp only [this]
theorem neg_place {w : World} {m n : Nat} (h : w.rowIs m 3 n (negF n)) : w.rowIs m 3 n (plF []) := h.congr fun i hi => by simp [negF, plF, placeF, hi]
theorem idx_take {X : List Int} (h : X.Nodup) {m : Nat} (hm : m < X.length) : X.getD m 0 ∉ X.take m := by
  intro hx
  obtain ⟨j, hj, e⟩ := List.mem_iff_getElem.1 hx
  rw [List.length_take] at hj
  rw [List.getElem_take, List.getD_eq_getElem?_getD, List.getElem?_eq_getElem hm, Option.getD_some] at e
  have := (List.getElem_inj h).1 e
  omega
theorem place_step {w : World} {m n : Nat} {W : List Int} {t k : Nat} (h : w.rowIs m 3 n (plF (W.take t))) (hn : W.Nodup) (ht : t < W.length) (hk : W.getD t 0 = (k : Int)) : (w.setCell ⟨m, k, none⟩ (.int .i64 (t : Int))).rowIs m 3 n (plF (W.take (t + 1))) := by
  have hni := idx_take hn ht
  refine (h.set k _).congr fun i hi => ?_
  unfold plF placeF
  rw [take_snoc W 0 t ht, hk]
  rw [hk] at hni
  by_cases hik : i = k
  · subst hik
    rw [if_pos rfl, if_pos (by simp)]
    rw [List.idxOf_append, if_neg hni]
    simp
    omega
  · rw [if_neg hik]
    have : ((i : Int) ∈ W.take t ++ [(k : Int)]) ↔ (i : Int) ∈ W.take t := by
      simp only [List.mem_append, List.mem_singleton]
      constructor
      · rintro (h | h)
        · exact h
        · exact absurd (by omega) hik
      · exact .inl
    simp only [this]
    split
    · rename_i hm
      rw [List.idxOf_append, if_pos hm]
    · rfl
theorem place_rd {w : World} {m n : Nat} {W : List Int} (h : w.rowIs m 3 n (plF W)) : Rd w (some ⟨m, 0, none⟩) (placeL n W) := by
  intro i hi
  rw [placeL_len] at hi
  refine ⟨_, rfl, ?_⟩
  rw [placeL_at n W i hi, show (Addr.mk m 0 none).add i = ⟨m, i, none⟩ by simp [Addr.add]; omega]
  exact h.cell hi
theorem made_neg {w : World} {n : Nat} : (w.alloc (.cells (madeCells #[.int .i64 0] n) 3)).rowIs w.heap.size 3 n (negF 0) := (World.rowIs_made w (.int .i64 0) n 3).congr fun i hi => by simp [negF]
theorem may_fields {g : G3} (h : mayG g = true) : ∀ x ∈ g.ns, ∀ v ∈ x.fs, v.kd = 3 → 0 ≤ v.ref ∧ v.ref < (g.ns.length : Int) := by
  unfold mayG at h
  simp only [Bool.and_eq_true, List.all_eq_true] at h
  intro x hx v hv h3
  have := h.2 x hx v hv
  unfold fieldB at this
  simp only [Bool.and_eq_true, Bool.or_eq_true] at this
  rcases this.2 with h4 | h4
  · simp [h3] at h4
  · exact isB_iff.1 h4
theorem may_roots {g : G3} (h : mayG g = true) : (∀ x ∈ g.rs, -1 ≤ x ∧ x < (g.ns.length : Int)) ∧ ∀ x ∈ g.ws, -1 ≤ x ∧ x < (g.ns.length : Int) := by
  unfold mayG at h
  simp only [Bool.and_eq_true, List.all_eq_true] at h
  have key : ∀ x, rootB g.ns.length x = true → -1 ≤ x ∧ x < (g.ns.length : Int) := by
    intro x hx
    unfold rootB at hx
    simp only [Bool.or_eq_true, beq_iff_eq] at hx
    rcases hx with rfl | hx
    · omega
    · have := isB_iff.1 hx; omega
  exact ⟨fun x hx => key x (h.1.2 x (List.mem_append_left _ hx)), fun x hx => key x (h.1.2 x (List.mem_append_right _ hx))⟩
/-- A block of three cells. -/
theorem Bx3_one {w : World} {b t : Nat} {x y z : Value} (h : w.heap[b]? = some (.cells #[x, y, z] t (0, 0))) : w.cell? ⟨b, 0, none⟩ = some x ∧ w.cell? ⟨b, 1, none⟩ = some y ∧ w.cell? ⟨b, 2, none⟩ = some z := by
  refine ⟨?_, ?_, ?_⟩ <;> (rw [cell_of_row w b _ _ t (0, 0) h]; rfl)
theorem Below.old_block {B : Nat} {w w' : World} (h : Below B w w') {k : Nat} {o : Obj} (hk : k < B) (ho : w.heap[k]? = some o) : w'.heap[k]? = some o := (h.block k hk).trans ho
end Go.Proofs.YtdgclpgjoanimaaDoor.Tr
