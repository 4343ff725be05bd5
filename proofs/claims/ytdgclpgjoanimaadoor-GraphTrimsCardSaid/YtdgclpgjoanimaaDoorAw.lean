/- awake. -/
import Derived.Test.YtdgclpgjoanimaaDoorTm
namespace Go.Proofs.YtdgclpgjoanimaaDoor.Aw
open Go.RowKit Go.ChangeShapes Go.WideShapes Go.Proofs.YtdgclpgjoanimaaDoorW.PrintWords Go.Proofs.YtdgclpgjoanimaaDoor.Ba Go.Proofs.YtdgclpgjoanimaaDoor.Ma Go.Proofs.YtdgclpgjoanimaaDoor.Mb Go.Proofs.YtdgclpgjoanimaaDoor.Pu Go.Proofs.YtdgclpgjoanimaaDoor.Wa Go.Proofs.YtdgclpgjoanimaaDoor.To Go.Proofs.YtdgclpgjoanimaaDoor.Tr
set_option linter.unusedVariables false
def g0 : G3 := ⟨[⟨0, [⟨1, 1, 0, 0, 0⟩]⟩, ⟨0, [⟨3, 0, 0, 0, 0⟩]⟩], [1], []⟩
theorem trim0 : trimL g0 = ⟨[⟨0, [⟨3, 0, 0, 0, 1⟩]⟩, ⟨0, [⟨1, 1, 0, 0, 0⟩]⟩], [0], []⟩ := by decide
theorem fv_one {w : World} {a : Nat} {x : V5} (h : Bx5 w a x) : Fv w (some ⟨a, 0, none⟩) [x] := by
  intro i hi
  obtain rfl : i = 0 := by simp at hi; omega
  obtain ⟨q0, q1, q2, q3, q4⟩ := Bx5.cells h
  exact ⟨_, rfl, q0, q1, q2, q3, q4⟩
theorem gat0 {w : World} {a b c d : Nat} (ha : Bx5 w a ⟨1, 1, 0, 0, 0⟩) (hb : Bx5 w b ⟨3, 0, 0, 0, 0⟩) (hc : w.heap[c]? = some (.cells #[.int .i64 0, .slice (some ⟨a, 0, none⟩) 1 1, .int .i64 0, .slice (some ⟨b, 0, none⟩) 1 1] 33 (0, 0)))
    (hd : w.heap[d]? = some (.cells #[.int .i64 1] 3 (0, 0))) : GAt w (.agg #[.slice (some ⟨c, 0, none⟩) 2 2, .slice (some ⟨d, 0, none⟩) 1 1, .slice none 0 0]) g0 := by
  refine ⟨some ⟨c, 0, none⟩, 2, some ⟨d, 0, none⟩, 1, none, 0, rfl, by decide, by decide, by decide, ?_, ?_, fun i hi => by simp [g0] at hi⟩
  · intro i hi
    have hi2 : i = 0 ∨ i = 1 := by simp [g0] at hi; omega
    rcases hi2 with rfl | rfl
    · refine ⟨_, rfl, ?_, some ⟨a, 0, none⟩, 1, ?_, by decide, fv_one ha⟩ <;> (rw [show (Addr.mk c 0 none).add (0 * 2) = ⟨c, 0, none⟩ from rfl]; rw [cell_of_row w c _ _ 33 (0, 0) hc]; rfl)
    · refine ⟨_, rfl, ?_, some ⟨b, 0, none⟩, 1, ?_, by decide, fv_one hb⟩ <;> (rw [show (Addr.mk c 0 none).add (1 * 2) = ⟨c, 2, none⟩ from rfl]; rw [cell_of_row w c _ _ 33 (0, 0) hc]; rfl)
  · intro i hi
    obtain rfl : i = 0 := by simp [g0] at hi; omega
    refine ⟨_, rfl, ?_⟩
    rw [show (Addr.mk d 0 none).add 0 = ⟨d, 0, none⟩ from rfl, cell_of_row w d _ _ 3 (0, 0) hd]
    rfl
theorem add0 (a : Addr) : a.add 0 = a := by
  unfold Addr.add
  obtain ⟨b, o, s⟩ := a
  cases s <;> simp
theorem sz0 : Sz g0 := ⟨by decide, by decide, by intro x hx; simp [g0] at hx; rcases hx with rfl | rfl <;> decide⟩
set_option maxHeartbeats 8000000 in
set_option maxRecDepth 100000 in
theorem awake_any (w : World) : Calls Tryd.prog 8 #[] w (BoolPost true w) := by
  have hz25 : ∀ w, (zeroValue 25).run Tryd.prog w = .ok (.agg #[.slice none 0 0, .slice none 0 0, .slice none 0 0]) w := fun w => by kernel_rfl
  have hz34 : ∀ w, (zeroValue 33).run Tryd.prog w = .ok (.agg #[.int .i64 0, .slice none 0 0]) w := fun w => by kernel_rfl
  have hz : ∀ w, (zeroValue 36).run Tryd.prog w = .ok (.agg #[.int .i64 0, .int .i64 0, .int .u64 0, .int .u64 0, .int .i64 0]) w := fun w => by kernel_rfl
  have HR := Lib.hid (ref_any 0 (w.alloc (.cells #[.int .i64 1, .int .i64 1, .int .u64 0, .int .u64 0, .int .i64 0] 36)))
  unfold agg5 at HR
  dsimp only at HR
  go_enter Tryd.func8, Tryd.ntmps8
  go_wp2_with fail
  refine HR.out.mono ?_
  rintro e w1 ⟨rfl, hb1⟩
  have hs1 := hb1.size
  rw [size_al] at hs1
  have HB1 : Hid (Below w.heap.size w w1) := Lib.hid (((Below.refl _ _).alloc (Nat.le_refl _) _).trans (hb1.mono (by rw [size_al]; omega)))
  have HA1 : Hid (w1.heap[w.heap.size]? = some (.cells #[.int .i64 1, .int .i64 1, .int .u64 0, .int .u64 0, .int .i64 0] 36 (0, 0))) := Lib.hid ((hb1.block _ (by rw [size_al]; omega)).trans (heap_alloc_new w _))
  obtain ⟨w2, hw2⟩ : ∃ w2, (((w1.alloc (.cells #[.int .i64 3, .int .i64 0, .int .u64 0, .int .u64 0, .int .i64 0] 36)).alloc (.cells #[.int .i64 0, .slice (some ⟨w.heap.size, 0, none⟩) 1 1, .int .i64 0, .slice (some ⟨w1.heap.size, 0, none⟩) 1 1] 33)).alloc (.cells #[.int .i64 1] 3)).alloc
    (.cells #[.slice (some ⟨w1.heap.size + 1, 0, none⟩) 2 2, .slice (some ⟨w1.heap.size + 1 + 1, 0, none⟩) 1 1, .slice none 0 0] 25) = w2 := ⟨_, rfl⟩
  have HB2 : Hid (Below w1.heap.size w1 w2) := Lib.hid (by rw [← hw2]; exact ((((Below.refl _ _).alloc (Nat.le_refl _) _).alloc (by simp) _).alloc (by simp; omega) _).alloc (by simp; omega) _)
  have HG : Hid (GAt w2 (.agg #[.slice (some ⟨w1.heap.size + 1, 0, none⟩) 2 2, .slice (some ⟨w1.heap.size + 1 + 1, 0, none⟩) 1 1, .slice none 0 0]) g0) := Lib.hid (by
    refine gat0 (a := w.heap.size) (b := w1.heap.size) ((HB2.out.block _ (by omega)).trans HA1.out) ?_ ?_ ?_
    · rw [← hw2]
      exact ((((Below.refl (w1.heap.size + 1) _).alloc (by simp) _).alloc (by simp) _).alloc (by simp) _).block w1.heap.size (by omega) |>.trans (heap_alloc_new w1 _)
    · rw [← hw2, ← size_al w1 (.cells #[.int .i64 3, .int .i64 0, .int .u64 0, .int .u64 0, .int .i64 0] 36)]
      exact (((Below.refl ((w1.alloc (.cells #[.int .i64 3, .int .i64 0, .int .u64 0, .int .u64 0, .int .i64 0] 36)).heap.size + 1) _).alloc (by simp) _).alloc (by simp) _).block _ (by omega) |>.trans (heap_alloc_new _ _)
    · rw [← hw2]
      obtain ⟨wa, hwa⟩ : ∃ wa, (w1.alloc (.cells #[.int .i64 3, .int .i64 0, .int .u64 0, .int .u64 0, .int .i64 0] 36)).alloc (.cells #[.int .i64 0, .slice (some ⟨w.heap.size, 0, none⟩) 1 1, .int .i64 0, .slice (some ⟨w1.heap.size, 0, none⟩) 1 1] 33) = wa := ⟨_, rfl⟩
      have hwas : w1.heap.size + 1 + 1 = wa.heap.size := by rw [← hwa, size_al, size_al]
      rw [hwa, hwas]
      exact ((Below.refl (wa.heap.size + 1) _).alloc (by simp) _).block _ (by omega) |>.trans (heap_alloc_new wa _))
  have HT := Lib.hid (Tm.trim_any _ g0 w2 HG.out sz0)
  have HBW : Hid (Below w.heap.size w w2) := Lib.hid (HB1.out.trans (HB2.out.mono (by omega)))
  have HW2 := Lib.hid hw2
  clear hb1 hw2
  go_wp2_with fail
  rw [HW2.out]
  refine HT.out.mono ?_
  rintro e w3 ⟨v3, rfl, hg3, hb3⟩
  rw [trim0] at hg3
  obtain ⟨AN, cN, AR, cR, AW, cW, rfl, _, _, _, hN, hR, _⟩ := hg3
  have HB3 := Lib.hid (HBW.out.trans (hb3.mono HBW.out.size))
  obtain ⟨ad, rfl, y0, A7, c7, y1, _, hf⟩ := hN 0 (by decide)
  obtain ⟨ad2, rfl, q0, q1, q2, q3, q4⟩ := hf 0 (by decide)
  obtain ⟨ad3, rfl, z0⟩ := hR 0 (by decide)
  simp only [add0, Nat.zero_add, Nat.zero_mul, List.getD_cons_zero, List.length_cons, List.length_nil] at y0 y1 q0 q1 q2 q3 q4 z0
  have hba := (Below.refl w3.heap.size w3).alloc (Nat.le_refl _) (.cells #[.slice (some ad) 2 cN, .slice (some ad3) 1 cR, .slice AW 0 cW] 25)
  have y1 := cell_old y1 hba.block
  have q4 := cell_old q4 hba.block
  have z0 := cell_old z0 hba.block
  have HB4 := Lib.hid (HB3.out.trans (hba.mono HB3.out.size))
  clear hN hR hf hb3 hba
  go_wp2
  go_ret
  exact ⟨rfl, HB4.out⟩
end Go.Proofs.YtdgclpgjoanimaaDoor.Aw
