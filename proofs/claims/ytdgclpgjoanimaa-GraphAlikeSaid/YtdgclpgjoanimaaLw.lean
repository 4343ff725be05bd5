/- What a law keeps of its graph while it walks. -/
import Derived.Test.YtdgclpgjoanimaaAw
namespace Go.Proofs.Ytdgclpgjoanimaa.Lw
open Go.RowKit Go.ChangeShapes Go.WideShapes Go.Proofs.YtdgclpgjoanimaaW.PrintWords Go.Proofs.Ytdgclpgjoanimaa.Ba Go.Proofs.Ytdgclpgjoanimaa.Ma Go.Proofs.Ytdgclpgjoanimaa.Mb Go.Proofs.Ytdgclpgjoanimaa.Pu Go.Proofs.Ytdgclpgjoanimaa.Wa Go.Proofs.Ytdgclpgjoanimaa.To Go.Proofs.Ytdgclpgjoanimaa.Tr
set_option linter.unusedVariables false
/-- The graph, its box (block B, a block of the call's own), and what has been left as it was. -/
structure St (w0 w : World) (B : Nat) (AN : Option Addr) (nN cN : Nat) (AR : Option Addr) (nR cR : Nat) (AW : Option Addr) (nW cW : Nat) (g : G3) : Prop where
  g : GAt w (.agg #[.slice AN nN cN, .slice AR nR cR, .slice AW nW cW]) g
  x : w.heap[B]? = some (.cells #[.slice AN nN cN, .slice AR nR cR, .slice AW nW cW] 25 (0, 0))
  b : Below w0.heap.size w0 w
theorem St.later {w0 w w' : World} {B : Nat} {AN : Option Addr} {nN cN : Nat} {AR : Option Addr} {nR cR : Nat} {AW : Option Addr} {nW cW : Nat} {g : G3} (h : St w0 w B AN nN cN AR nR cR AW nW cW g) (hb : Below w.heap.size w w') : St w0 w' B AN nN cN AR nR cR AW nW cW g :=
  ⟨h.g.below hb, (hb.block _ (blt h.x)).trans h.x, h.b.trans (hb.mono h.b.size)⟩
theorem St.start {w : World} {AN : Option Addr} {nN cN : Nat} {AR : Option Addr} {nR cR : Nat} {AW : Option Addr} {nW cW : Nat} {g : G3} (h : GAt w (.agg #[.slice AN nN cN, .slice AR nR cR, .slice AW nW cW]) g) : St w (w.alloc (.cells #[.slice AN nN cN, .slice AR nR cR, .slice AW nW cW] 25)) w.heap.size AN nN cN AR nR cR AW nW cW g :=
  ⟨h.below ((Below.refl _ _).alloc (Nat.le_refl _) _), heap_alloc_new w _, (Below.refl _ _).alloc (Nat.le_refl _) _⟩
theorem St.cells {w0 w : World} {B : Nat} {AN : Option Addr} {nN cN : Nat} {AR : Option Addr} {nR cR : Nat} {AW : Option Addr} {nW cW : Nat} {g : G3} (h : St w0 w B AN nN cN AR nR cR AW nW cW g) :
    w.cell? ⟨B, 0, none⟩ = some (.slice AN nN cN) ∧ w.cell? ⟨B, 1, none⟩ = some (.slice AR nR cR) ∧ w.cell? ⟨B, 2, none⟩ = some (.slice AW nW cW) := Bx3_one h.x
theorem reachR_len (g : G3) (l : List Int) (h : g.ns.length ≤ 60) : (Re.reachR g l).length ≤ 60 := by
  unfold Re.reachR
  split
  · rw [reachL_len]; exact h
  · simp
end Go.Proofs.Ytdgclpgjoanimaa.Lw
