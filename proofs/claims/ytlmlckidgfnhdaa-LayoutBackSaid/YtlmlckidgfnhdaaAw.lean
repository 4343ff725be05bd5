/- awake. -/
import Derived.Test.YtlmlckidgfnhdaaNw
namespace Go.Proofs.Ytlmlckidgfnhdaa.Aw
open Go.RowKit Go.ChangeShapes Go.WideShapes Go.Proofs.YtlmlckidgfnhdaaW.PrintWords Go.Proofs.Ytlmlckidgfnhdaa.Ba Go.Proofs.Ytlmlckidgfnhdaa.Kw Go.Proofs.Ytlmlckidgfnhdaa.Kx Go.Proofs.Ytlmlckidgfnhdaa.Pl Go.Proofs.Ytlmlckidgfnhdaa.Pc Go.Proofs.Ytlmlckidgfnhdaa.My Go.Proofs.Ytlmlckidgfnhdaa.Nw
set_option linter.unusedVariables false
set_option linter.unusedSimpArgs false
def c0 : Cf := ⟨[[1]], 8, 0, 0, 0, 1, 1, 40⟩
theorem arg0 : Arg c0 := ⟨by decide, by decide, by decide, by decide, by decide, by decide, by decide, by decide, by decide, by decide, by decide, by decide⟩
theorem words0 : wordsA c0 = 88 := by decide
theorem may0 : mayE c0 = 0 := mayE_ok arg0 (by rw [words0]; decide)
theorem ks0 {w : World} {a b : Nat} (ha : w.heap[a]? = some (.cells #[.int .i64 1] 3 (0, 0))) (hb : w.heap[b]? = some (.cells #[.slice (some ⟨a, 0, none⟩) 1 1] 54 (0, 0))) : Ks w (some ⟨b, 0, none⟩) [[1]] := by
  intro i hi
  obtain rfl : i = 0 := by simp at hi; omega
  refine ⟨_, rfl, some ⟨a, 0, none⟩, 1, ?_, by decide, ?_⟩
  · rw [show (Addr.mk b 0 none).add 0 = ⟨b, 0, none⟩ from rfl, blk_cell hb]; rfl
  · intro j hj
    obtain rfl : j = 0 := by simp at hj; omega
    refine ⟨_, rfl, ?_⟩
    rw [show (Addr.mk a 0 none).add 0 = ⟨a, 0, none⟩ from rfl, blk_cell ha]; rfl
set_option maxHeartbeats 4000000 in
theorem awake_any (w : World) : Calls Try.prog 10 #[] w (BoolPost true w) := by
  have hz23 : ∀ w, (zeroValue 23).run Try.prog w = .ok (.agg #[.int .i64 0, .int .i64 0, .int .i64 0, .int .i64 0]) w := fun w => by kernel_rfl
  have hz25 : ∀ w, (zeroValue 25).run Try.prog w = .ok (.agg #[.slice none 0 0, .int .i64 0, .int .i64 0, .int .i64 0, .int .i64 0, .int .i64 0, .int .i64 0, .int .i64 0]) w := fun w => by kernel_rfl
  have hz54 : ∀ w, (zeroValue 54).run Try.prog w = .ok (.agg #[.slice none 0 0]) w := fun w => by kernel_rfl
  obtain ⟨w1, hw1⟩ : ∃ w1, (w.alloc (.cells #[.int .i64 1] 3)).alloc (.cells #[.slice (some ⟨w.heap.size, 0, none⟩) 1 1] 54) = w1 := ⟨_, rfl⟩
  have HB1 : Hid (Below w.heap.size w w1) := Lib.hid (by rw [← hw1]; exact ((Below.refl _ _).alloc (Nat.le_refl _) _).alloc (by simp) _)
  have HN := Lib.hid (new_any (some ⟨w.heap.size + 1, 0, none⟩) 1 [[1]] 8 0 0 0 1 1 40 w1 (by
    rw [← hw1]
    exact ks0 (a := w.heap.size) (blk_alloc (heap_alloc_new w _) _) (by rw [← size_al w (.cells #[.int .i64 1] 3)]; exact heap_alloc_new _ _)))
  have HW := Lib.hid hw1
  clear hw1
  go_enter Try.func10, Try.ntmps10
  go_wp2_with fail
  rw [HW.out]
  refine HN.out.mono ?_
  rintro e w2 ⟨hb2, ⟨_, g, A, k, rfl, hl, _, _, _⟩ | ⟨hne, _⟩⟩
  · have HB2 := Lib.hid (HB1.out.trans (hb2.mono HB1.out.size))
    have hwd := words_any g A k c0 w2 hl
    rw [words0] at hwd
    have HWD := Lib.hid hwd
    have ke : ∀ W : World, (binOp .neq 31 (.pointer (some ⟨g, 0, none⟩)) (.pointer none)).run Try.prog W = .ok (.bool true) W := fun W => by rfl
    clear hb2 hl hwd
    go_wp2_with fail
    refine HWD.out.mono ?_
    rintro e w3 ⟨rfl, rfl⟩
    go_wp2
    go_ret
    exact ⟨rfl, HB2.out⟩
  · exact absurd may0 hne
end Go.Proofs.Ytlmlckidgfnhdaa.Aw
