/- Arguments opened: what a reading of an argument gives as a row or a struct of a kind (the print's words, Kd), kind by kind; and the row's own step. -/
import Derived.Test.YtdgclpgjoanimaaDoorWWords
import Derived.ProofKit
import Derived.OpenShut
import Derived.ShutString
import Derived.Below
import Derived.SizedLaws
import Derived.Deep.Slices
namespace Go.Proofs.YtdgclpgjoanimaaDoor.Op
open Go.RowKit Go.Proofs.YtdgclpgjoanimaaDoorW.PrintWords Go.Deep Go.ChangeShapes Go.WideShapes

/-- Whatever reads as a value of type t is of kind d, and Ok. -/
def Opens {α : Type} (P : Program) (t : TypeId) (d : Kd α) (Ok : α → Prop) : Prop :=
  ∀ (H : Type) (enc : TypeId × Value → H) (w : World) (base : Nat) (spare : Nat → Bool) (held : Bool) (fuel : Nat) (cs : List Value) (x : DataW H × List MemPlace),
    DataW.trod enc P w base spare held fuel t cs = some x → ∃ y, d.K w y cs ∧ Ok y
/-- Whatever reads, field by field, lies as d from the cell o on. -/
def OpensF {α : Type} (P : Program) (fs : List Field) (o : Nat) (d : Kd α) (Ok : α → Prop) : Prop :=
  ∀ (H : Type) (enc : TypeId × Value → H) (w : World) (base : Nat) (spare : Nat → Bool) (held : Bool) (n : Nat) (cs : List Value),
    (∀ f, f ∈ fs → ∃ y, DataW.trod enc P w base spare held n f.type ((cs.drop f.offset).take (P.cellsOf f.type)) = some y) → ∃ y, d.K w y ((cs.drop o).take d.sz) ∧ Ok y

theorem opens_int {P : Program} {t : TypeId} {k : IntKind} (ht : P.underlying t = some (.int k)) : Opens P t (Kd.int k) (fun n => (Lit.int k n).wf = true) := by
  intro H enc w base spare held fuel cs x h
  obtain ⟨n, hc, _, hw⟩ := DataW.trod_int ht h
  exact ⟨n, hc, hw⟩
theorem opens_bool {P : Program} {t : TypeId} (ht : P.underlying t = some .bool) : Opens P t Kd.bool (fun _ => True) := by
  intro H enc w base spare held fuel cs x h
  obtain ⟨n, hc, _⟩ := DataW.trod_bool ht h
  exact ⟨n, hc, trivial⟩
theorem opens_slice {α : Type} {P : Program} {t e : TypeId} {n : Nat} {d : Kd α} {Ok : α → Prop} (ht : P.underlying t = some (.slice e)) (hs : P.cellsOf e = d.sz) (he : Opens P e d Ok) :
    Opens P t (Kd.slice n d) (fun l => l.length ≤ maxLen ∧ ∀ x ∈ l, Ok x) := by
  intro H enc w base spare held fuel cs x h
  rcases open_slice ht h with ⟨rfl, _⟩ | ⟨a, len, cap, m, n, D, Pl, rfl, _, hl, hm, hmm, _, hi⟩
  · exact ⟨[], ⟨none, 0, rfl, Nat.le_refl _, rfl, by simp, fun h0 => absurd h0 (by simp)⟩, by simp, by simp⟩
  have hle : len ≤ m := by rw [hmm]; split <;> omega
  have key : ∀ k, k ≤ len → ∃ l : List α, l.length = k ∧ (∀ x ∈ l, Ok x) ∧ ∀ j p, l[j]? = some p → ∃ c, c.length = d.sz ∧ d.K w p c ∧ ∀ i u, c[i]? = some u → w.cell? (a.add (j * d.sz + i)) = some u := by
    intro k
    induction k with
    | zero => exact fun _ => ⟨[], rfl, by simp, by simp⟩
    | succ k ih =>
      intro hk
      obtain ⟨l, hl1, hl2, hl3⟩ := ih (by omega)
      obtain ⟨cs', hc, ht'⟩ := hi k (by omega)
      obtain ⟨y, hy, hok⟩ := he H enc w base spare held n cs' _ ht'
      rw [hs] at hc
      obtain ⟨_, hcl, hat⟩ := World.cells?_some hc
      refine ⟨l ++ [y], by simp [hl1], ?_, ?_⟩
      · intro x hx
        rcases List.mem_append.1 hx with hx | hx
        · exact hl2 x hx
        · rw [List.mem_singleton.1 hx]; exact hok
      · intro j p hj
        by_cases hjk : j < l.length
        · rw [List.getElem?_append_left hjk] at hj
          exact hl3 j p hj
        · have hlt : j < (l ++ [y]).length := (List.getElem?_eq_some_iff.1 hj).1
          rw [List.length_append, List.length_singleton] at hlt
          obtain rfl : j = k := by omega
          rw [List.getElem?_append_right (by omega), hl1, Nat.sub_self] at hj
          obtain rfl : y = p := by simpa using hj
          refine ⟨cs', hcl, hy, fun i u hu => ?_⟩
          have hi' : i < d.sz := by rw [← hcl]; exact (List.getElem?_eq_some_iff.1 hu).1
          rw [← Go.Deep.add_add, hat i hi', hu]
  obtain ⟨l, h1, h2, h3⟩ := key len (Nat.le_refl _)
  have hb : len ≤ maxLen := by omega
  refine ⟨l, ⟨some a, cap, by rw [h1], by omega, rfl, ?_, fun _ => ⟨a, rfl, h3⟩⟩, by omega, h2⟩
  unfold maxLen at hb
  omega
theorem opens_iso {α β : Type} {P : Program} {t : TypeId} {d : Kd α} {Ok : α → Prop} (f : β → α) (g : α → β) (hg : ∀ x, f (g x) = x) (h : Opens P t d Ok) : Opens P t (Kd.iso d f) (fun y => Ok (f y)) := by
  intro H enc w base spare held fuel cs x hx
  obtain ⟨y, hy, hok⟩ := h H enc w base spare held fuel cs x hx
  refine ⟨g y, ?_, ?_⟩
  · show d.K w (f (g y)) cs
    rw [hg]; exact hy
  · show Ok (f (g y))
    rw [hg]; exact hok
theorem opensF_last {α : Type} {P : Program} {f : Field} {o : Nat} {d : Kd α} {Ok : α → Prop} (ho : f.offset = o) (hs : P.cellsOf f.type = d.sz) (h : Opens P f.type d Ok) : OpensF P [f] o d Ok := by
  intro H enc w base spare held n cs hf
  obtain ⟨y, hy⟩ := hf f List.mem_cons_self
  rw [ho, hs] at hy
  exact h H enc w base spare held n _ _ hy
theorem opensF_cons {α β : Type} {P : Program} {f : Field} {fs : List Field} {o : Nat} {a : Kd α} {b : Kd β} {OkA : α → Prop} {OkB : β → Prop} (ho : f.offset = o) (hs : P.cellsOf f.type = a.sz) (h : Opens P f.type a OkA)
    (hr : OpensF P fs (o + a.sz) b OkB) : OpensF P (f :: fs) o (Kd.pair a b) (fun x => OkA x.1 ∧ OkB x.2) := by
  intro H enc w base spare held n cs hf
  obtain ⟨y, hy⟩ := hf f List.mem_cons_self
  rw [ho, hs] at hy
  obtain ⟨x0, hx0, ok0⟩ := h H enc w base spare held n _ _ hy
  obtain ⟨x1, hx1, ok1⟩ := hr H enc w base spare held n cs (fun f' hf' => hf f' (List.mem_cons_of_mem _ hf'))
  refine ⟨(x0, x1), ⟨_, _, ?_, hx0, hx1⟩, ok0, ok1⟩
  show List.take (a.sz + b.sz) _ = _
  rw [List.take_add, List.drop_drop]
theorem opens_struct {α : Type} {P : Program} {t : TypeId} {fs : Array Field} {d : Kd α} {Ok : α → Prop} (ht : P.underlying t = some (.struct fs)) (hs : P.cellsOf t = d.sz) (h : OpensF P fs.toList 0 d Ok) : Opens P t d Ok := by
  intro H enc w base spare held fuel cs x hx
  obtain ⟨xs, n, _, rfl, hl, hlen, hf⟩ := DataW.trod_struct ht hx
  obtain ⟨y, hy, hok⟩ := h H enc w base spare held n cs (fun f hfm => by
    obtain ⟨i, hi, rfl⟩ := List.mem_iff_getElem.1 hfm
    have hi' : i < fs.size := by simpa using hi
    have := hf i fs[i] (Array.getElem?_eq_getElem hi')
    rw [List.getElem?_eq_getElem (by omega)] at this
    exact ⟨_, by simpa using this⟩)
  refine ⟨y, ?_, hok⟩
  rw [List.drop_zero, List.take_of_length_le (by omega)] at hy
  exact hy
end Go.Proofs.YtdgclpgjoanimaaDoor.Op
