/-
  Two values have one text just if they are the same; a value as far as its kind gives a meaning (the reference's Plain).
-/
import Derived.Test.YtacfddlclbelmaaDoorVx
namespace Go.Proofs.YtacfddlclbelmaaDoor.Vy
open Go.RowKit Go.ChangeShapes Go.WideShapes Go.Proofs.YtacfddlclbelmaaDoorW.PrintWords Go.Proofs.YtacfddlclbelmaaDoor.Ba Go.Proofs.YtacfddlclbelmaaDoor.Va Go.Proofs.YtacfddlclbelmaaDoor.Vb Go.Proofs.YtacfddlclbelmaaDoor.Vp Go.Proofs.YtacfddlclbelmaaDoor.Tx Go.Proofs.YtacfddlclbelmaaDoor.Ps Go.Proofs.YtacfddlclbelmaaDoor.Vx
set_option linter.unusedVariables false
set_option linter.unusedSimpArgs false
set_option maxRecDepth 100000
set_option maxHeartbeats 8000000
def In (v : V5) : Prop := v.kd = 0 ∨ v.kd = 1 ∨ v.kd = 2 ∨ v.kd = 3
/-- What a text's first byte tells of the value's kind. -/
def hdK (c : UInt8) : Int := if c.toNat = 110 then 0 else if c.toNat = 99 then 2 else if c.toNat = 35 then 3 else 1
theorem text_head {v : V5} (h : In v) : ∃ c r, textV v = c :: r ∧ hdK c = v.kd := by
  unfold textV
  rcases h with h | h | h | h
  · rw [if_pos h, h]; exact ⟨_, _, rfl, rfl⟩
  · rw [if_neg (by omega), if_pos h, h]
    obtain ⟨c, r, e, hc⟩ := Dc.itoa_head v.n
    refine ⟨c, r, e, ?_⟩
    unfold hdK
    rw [if_neg (by omega), if_neg (by omega), if_neg (by omega)]
  · rw [if_neg (by omega), if_neg (by omega), if_pos h, h]; exact ⟨_, _, rfl, rfl⟩
  · rw [if_neg (by omega), if_neg (by omega), if_neg (by omega), if_pos h, h]; exact ⟨_, _, rfl, rfl⟩
theorem text_iff {a b : V5} (ha : In a) (hb : In b) (wa : Wf a) (wb : Wf b) : textV a = textV b ↔ sameV a b = true := by
  by_cases hk : a.kd = b.kd
  · unfold sameV
    rw [show decide (a.kd = b.kd) = true by simpa using hk, Bool.true_and]
    rcases ha with h | h | h | h
    · rw [if_pos h]
      unfold textV
      rw [if_pos h, if_pos (by omega)]
      simp
    · rw [if_neg (by omega), if_pos h]
      unfold textV
      rw [if_neg (by omega), if_pos h, if_neg (by omega), if_pos (by omega)]
      rw [decide_eq_true_eq]
      exact ⟨Dc.itoa_inj ⟨wa.n0, wa.n1⟩ ⟨wb.n0, wb.n1⟩, fun e => by rw [e]⟩
    · rw [if_neg (by omega), if_neg (by omega), if_pos h]
      unfold textV
      rw [if_neg (by omega), if_neg (by omega), if_pos h, if_neg (show ¬ b.kd = 0 by omega), if_neg (show ¬ b.kd = 1 by omega), if_pos (show b.kd = 2 by omega)]
      rw [Bool.and_eq_true, decide_eq_true_eq, decide_eq_true_eq]
      have h1 := wa.a0; have h2 := wa.a1; have h3 := wa.b0; have h4 := wa.b1
      have g1 := wb.a0; have g2 := wb.a1; have g3 := wb.b0; have g4 := wb.b1
      constructor
      · intro e
        injection e with _ e
        obtain ⟨e1, e2⟩ := text_inj (by omega) (by omega) (by omega) (by omega) e
        exact ⟨by omega, by omega⟩
      · rintro ⟨e1, e2⟩
        rw [e1, e2]
    · rw [if_neg (by omega), if_neg (by omega), if_neg (by omega), if_pos h]
      unfold textV
      rw [if_neg (by omega), if_neg (by omega), if_neg (by omega), if_pos h, if_neg (show ¬ b.kd = 0 by omega), if_neg (show ¬ b.kd = 1 by omega), if_neg (show ¬ b.kd = 2 by omega), if_pos (show b.kd = 3 by omega)]
      rw [decide_eq_true_eq]
      constructor
      · intro e
        injection e with _ e
        exact Dc.itoa_inj ⟨wa.r0, wa.r1⟩ ⟨wb.r0, wb.r1⟩ e
      · intro e; rw [e]
  · constructor
    · intro e
      obtain ⟨c, r, e1, h1⟩ := text_head ha
      obtain ⟨d, s, e2, h2⟩ := text_head hb
      rw [e1, e2] at e
      injection e with e _
      exact absurd (by rw [← h1, ← h2, e]) hk
    · intro e
      unfold sameV at e
      rw [show decide (a.kd = b.kd) = false by simpa using hk, Bool.false_and] at e
      cases e
theorem text_beq {a b : V5} (ha : In a) (hb : In b) (wa : Wf a) (wb : Wf b) : ((⟨(textV a).toArray⟩ : ByteArray).toList == (⟨(textV b).toArray⟩ : ByteArray).toList) = sameV a b := by
  rw [ByteArray.toList_eq, ByteArray.toList_eq]
  have h := text_iff ha hb wa wb
  show (textV a == textV b) = sameV a b
  cases hs : sameV a b
  · rw [beq_eq_false_iff_ne]
    intro e
    rw [h.1 e] at hs
    cases hs
  · rw [h.2 hs]; simp
theorem same_symm (a b : V5) : sameV b a = sameV a b := by
  unfold sameV
  by_cases h : a.kd = b.kd
  · rw [h]
    simp only [decide_true, Bool.true_and, eq_comm]
  · rw [show decide (a.kd = b.kd) = false by simpa using h, show decide (b.kd = a.kd) = false by simpa using (fun e => h e.symm)]
    simp
theorem same_plain {v : V5} (h : In v) : sameV v (plainV v) = true := by
  unfold sameV plainV
  rcases h with h | h | h | h <;> simp [h]
theorem plain_any (kd n re im ref : Int) (hk : kd = 0 ∨ kd = 1 ∨ kd = 2 ∨ kd = 3) (w : World) : Calls Tryd.prog 29 #[.agg #[.int .i64 kd, .int .i64 n, .int .u64 re, .int .u64 im, .int .i64 ref]] w fun e w' => e = .returned (agg5 (plainV ⟨kd, n, re, im, ref⟩)) ∧ Below w.heap.size w w' := by
  have hz := hz24'
  have HX0 := Lib.hid (show Bx5 (w.alloc (.cells #[.int .i64 kd, .int .i64 n, .int .u64 re, .int .u64 im, .int .i64 ref] 24)) w.heap.size ⟨kd, n, re, im, ref⟩ from heap_alloc_new w _)
  have HB0 := Lib.hid (bel_one w (.cells #[.int .i64 kd, .int .i64 n, .int .u64 re, .int .u64 im, .int .i64 ref] 24))
  obtain ⟨w0, hw0⟩ : ∃ w0, w.alloc (.cells #[.int .i64 kd, .int .i64 n, .int .u64 re, .int .u64 im, .int .i64 ref] 24) = w0 := ⟨_, rfl⟩
  rw [hw0] at HX0 HB0
  have hb1 := bel_one w0 (.cells #[.int .i64 0, .int .i64 0, .int .u64 0, .int .u64 0, .int .i64 0] 24)
  have HY1 := Lib.hid (show Bx5 (w0.alloc (.cells #[.int .i64 0, .int .i64 0, .int .u64 0, .int .u64 0, .int .i64 0] 24)) w0.heap.size z5 from heap_alloc_new w0 _)
  obtain ⟨w1, hw1⟩ : ∃ w1, w0.alloc (.cells #[.int .i64 0, .int .i64 0, .int .u64 0, .int .u64 0, .int .i64 0] 24) = w1 := ⟨_, rfl⟩
  rw [hw1] at HY1 hb1
  have HX1 := Lib.hid (blk_below HX0.out hb1)
  have HB1 := Lib.hid (HB0.out.trans (hb1.mono HB0.out.size))
  have HS := Lib.hid HB0.out.size
  clear hb1
  obtain ⟨q0, q1, q2, q3, q4⟩ := Bx5.cells HX1.out
  rcases hk with rfl | rfl | rfl | rfl
  · obtain ⟨w3, h1, h2, h3⟩ := store5 HY1.out ⟨0, 0, 0, 0, 0⟩
    have H1 := Lib.hid h1
    have H2 := Lib.hid h2
    have HB := Lib.hid (HB1.out.trans (below_of_grown h3 HS.out HB1.out.size))
    clear h1 h2 h3
    go_enter Tryd.func29, Tryd.ntmps29
    go_wp2_with (refine store_named (P := Tryd.prog) rfl 24 (.tmp 2) (.tmp 24) rfl w0.heap.size 0 #[.int .i64 0, .int .i64 0, .int .u64 0, .int .u64 0, .int .i64 0] rfl rfl (there5 HY1.out) infoV (one5 _ _ _ _ _) H1.out ?_)
    (try simp only [Exit.inBlock, Exit.then])
    refine bodyPost_ret (results_cell_row rfl _ _ w0.heap.size 24 _ (0, 0) _ rfl H2.out Tryd.underlying24 rfl infoV) rfl ?_
    exact ⟨rfl, HB.out⟩
  · obtain ⟨w3, h1, h2, h3⟩ := store5 HY1.out ⟨1, n, 0, 0, 0⟩
    have H1 := Lib.hid h1
    have H2 := Lib.hid h2
    have HB := Lib.hid (HB1.out.trans (below_of_grown h3 HS.out HB1.out.size))
    clear h1 h2 h3
    go_enter Tryd.func29, Tryd.ntmps29
    go_wp2_with (refine store_named (P := Tryd.prog) rfl 24 (.tmp 2) (.tmp 9) rfl w0.heap.size 0 #[.int .i64 1, .int .i64 n, .int .u64 0, .int .u64 0, .int .i64 0] rfl rfl (there5 HY1.out) infoV (one5 _ _ _ _ _) H1.out ?_)
    (try simp only [Exit.inBlock, Exit.then])
    refine bodyPost_ret (results_cell_row rfl _ _ w0.heap.size 24 _ (0, 0) _ rfl H2.out Tryd.underlying24 rfl infoV) rfl ?_
    exact ⟨rfl, HB.out⟩
  · obtain ⟨w3, h1, h2, h3⟩ := store5 HY1.out ⟨2, 0, re, im, 0⟩
    have H1 := Lib.hid h1
    have H2 := Lib.hid h2
    have HB := Lib.hid (HB1.out.trans (below_of_grown h3 HS.out HB1.out.size))
    clear h1 h2 h3
    go_enter Tryd.func29, Tryd.ntmps29
    go_wp2_with (refine store_named (P := Tryd.prog) rfl 24 (.tmp 2) (.tmp 16) rfl w0.heap.size 0 #[.int .i64 2, .int .i64 0, .int .u64 re, .int .u64 im, .int .i64 0] rfl rfl (there5 HY1.out) infoV (one5 _ _ _ _ _) H1.out ?_)
    (try simp only [Exit.inBlock, Exit.then])
    refine bodyPost_ret (results_cell_row rfl _ _ w0.heap.size 24 _ (0, 0) _ rfl H2.out Tryd.underlying24 rfl infoV) rfl ?_
    exact ⟨rfl, HB.out⟩
  · obtain ⟨w3, h1, h2, h3⟩ := store5 HY1.out ⟨3, 0, 0, 0, ref⟩
    have H1 := Lib.hid h1
    have H2 := Lib.hid h2
    have HB := Lib.hid (HB1.out.trans (below_of_grown h3 HS.out HB1.out.size))
    clear h1 h2 h3
    go_enter Tryd.func29, Tryd.ntmps29
    go_wp2_with (refine store_named (P := Tryd.prog) rfl 24 (.tmp 2) (.tmp 21) rfl w0.heap.size 0 #[.int .i64 3, .int .i64 0, .int .u64 0, .int .u64 0, .int .i64 ref] rfl rfl (there5 HY1.out) infoV (one5 _ _ _ _ _) H1.out ?_)
    (try simp only [Exit.inBlock, Exit.then])
    refine bodyPost_ret (results_cell_row rfl _ _ w0.heap.size 24 _ (0, 0) _ rfl H2.out Tryd.underlying24 rfl infoV) rfl ?_
    exact ⟨rfl, HB.out⟩
end Go.Proofs.YtacfddlclbelmaaDoor.Vy
