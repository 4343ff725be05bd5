/-
  Without the document's answers: what is written is read as it was: words and texts.
-/
import Derived.Test.YtacfddlclbelmaaDoorRows
import Derived.WalkKit
import Derived.WalkSpells
import Derived.WalkLawsBesides
import Derived.WalkMore
import Derived.ProofKit
import Derived.OpenShut
import Derived.ShutString
import Derived.ChangeOld
import Derived.Below
import Derived.SizedLaws
import Derived.Lib.Hide
import Derived.Test.YtacfddlclbelmaaDoorOpen
import Derived.Test.YtacfddlclbelmaaDoorVt
import Derived.Test.YtacfddlclbelmaaDoorTie
import Derived.Test.YtacfddlclbelmaaDoorCards
import Derived.SevenTiedAt
import Derived.Test.YtacfddlclbelmaaDoorVe
import Derived.Test.YtacfddlclbelmaaDoorVx
namespace Go.Proofs.YtacfddlclbelmaaDoor.valueBack
open Go.RowKit Go.ChangeShapes Go.WideShapes Go.ChangeAt Go.Proofs.YtacfddlclbelmaaDoorW.PrintWords
set_option linter.unusedVariables false
open Go.Proofs.YtacfddlclbelmaaDoor.Ba Go.Proofs.YtacfddlclbelmaaDoor.Va Go.Proofs.YtacfddlclbelmaaDoor.Vb Go.Proofs.YtacfddlclbelmaaDoor.Vc Go.Proofs.YtacfddlclbelmaaDoor.Vd Go.Proofs.YtacfddlclbelmaaDoor.Ve Go.Proofs.YtacfddlclbelmaaDoor.Vx
set_option maxHeartbeats 8000000
set_option maxRecDepth 100000
theorem wf_of {v : V5} (h : ok5 v) : Wf v := by
  obtain ⟨_, h1, h2, h3, h4⟩ := h
  have a := i64_bd h1
  have b := u64_bd h2
  have c := u64_bd h3
  have d := i64_bd h4
  exact ⟨a.1, a.2, b.1, b.2, c.1, c.2, d.1, d.2⟩
theorem vsame_is {a1 a2 a3 a4 a5 b1 b2 b3 b4 b5 : Int} {r : Bool} (h : sameV ⟨a1, a2, a3, a4, a5⟩ ⟨b1, b2, b3, b4, b5⟩ = r) (w : World) : Calls Tryd.prog 24 #[.agg #[.int .i64 a1, .int .i64 a2, .int .u64 a3, .int .u64 a4, .int .i64 a5], .agg #[.int .i64 b1, .int .i64 b2, .int .u64 b3, .int .u64 b4, .int .i64 b5]] w fun e w' => e = .returned (.bool r) ∧ Below w.heap.size w w' := by
  have := vsame_any a1 a2 a3 a4 a5 b1 b2 b3 b4 b5 w
  rw [h] at this
  exact this
theorem parse_ag (kd n re im ref : Int) (hk : kd = 0 ∨ kd = 1 ∨ kd = 2 ∨ kd = 3) {a b c d e : Int} (hp : plainV ⟨kd, n, re, im, ref⟩ = ⟨a, b, c, d, e⟩) (w : World) (hw : Wf ⟨kd, n, re, im, ref⟩) (ht : Vp.Tab w) : Calls Tryd.prog 25 #[.string ⟨(textV ⟨kd, n, re, im, ref⟩).toArray⟩] w fun e' w' =>
    e' = .returned (.tuple #[.agg #[.int .i64 a, .int .i64 b, .int .u64 c, .int .u64 d, .int .i64 e], .bool true]) ∧ Below w.heap.size w w' := by
  have := parse_text' kd n re im ref hk w hw ht
  rw [hp] at this
  exact this
theorem walk (w : World) (HT0 : Vp.Tab w) (x0 : Ba.V5) (hk0 : Ba.k5.K w x0 (Ba.agg5 x0).cells.toList) (ok0 : Ba.ok5 x0) :
    Calls Tryd.prog 9 #[Ba.agg5 x0] w fun e w' => e = .returned (.bool true) ∧ Below w.heap.size w w' := by
  obtain ⟨kd, n, re, im, ref⟩ := x0
  have hwf := wf_of ok0
  have hbn := back64 ok0.2.1
  have hrf : (Lit.int .i64 ref).wf = true := ok0.2.2.2.2
  have HRF := Lib.hid hrf
  have HWF := Lib.hid hwf
  have HBN := Lib.hid hbn
  have hz := hz24'
  have HB0 := Lib.hid (bel_one w (.cells #[.int .i64 kd, .int .i64 n, .int .u64 re, .int .u64 im, .int .i64 ref] 24))
  have HX0 := Lib.hid (show Bx5 (w.alloc (.cells #[.int .i64 kd, .int .i64 n, .int .u64 re, .int .u64 im, .int .i64 ref] 24)) w.heap.size ⟨kd, n, re, im, ref⟩ from heap_alloc_new w _)
  obtain ⟨w0, hw0⟩ : ∃ w0, w.alloc (.cells #[.int .i64 kd, .int .i64 n, .int .u64 re, .int .u64 im, .int .i64 ref] 24) = w0 := ⟨_, rfl⟩
  rw [hw0] at HB0 HX0
  have HT0' := Lib.hid (HT0.below HB0.out)
  have HTX := Lib.hid (fun (W : World) (h : Vp.Tab W) => text_any' kd n re im ref W HWF.out h)
  clear ok0 hk0 HT0 hwf hbn hrf
  unfold agg5
  dsimp only
  obtain ⟨q0, q1, q2, q3, q4⟩ := Bx5.cells HX0.out
  by_cases hlo : kd < 0
  · skip

    have HE : Hid (textV ⟨kd, n, re, im, ref⟩ = []) := Lib.hid (by unfold textV; rw [if_neg (show ¬ kd = 0 by omega), if_neg (show ¬ kd = 1 by omega), if_neg (show ¬ kd = 2 by omega), if_neg (show ¬ kd = 3 by omega)])
    have HSV : Hid (sameV ⟨kd, n, re, im, ref⟩ ⟨kd, n, re, im, ref⟩ = false) := Lib.hid (by unfold sameV; dsimp only; rw [if_neg (show ¬ kd = 0 by omega), if_neg (show ¬ kd = 1 by omega), if_neg (show ¬ kd = 2 by omega), if_neg (show ¬ kd = 3 by omega)]; simp)
    rw [HE.out] at HTX
    go_enter Tryd.func9, Tryd.ntmps9
    go_wp2_with fail
    refine (HTX.out _ HT0'.out).mono ?_
    rintro e w1 ⟨rfl, hbn⟩
    have HB1 := Lib.hid (HB0.out.trans (hbn.mono HB0.out.size))
    have HX1 := Lib.hid (blk_below HX0.out hbn)
    have HT1' := Lib.hid (HT0'.out.below hbn)
    clear hbn q0 q1 q2 q3 q4
    obtain ⟨q0, q1, q2, q3, q4⟩ := Bx5.cells HX1.out
    go_wp2_with fail
    refine (vsame_is HSV.out _).mono ?_
    rintro e w2 ⟨rfl, hbn⟩
    have HB2 := Lib.hid (HB1.out.trans (hbn.mono HB1.out.size))
    have HX2 := Lib.hid (blk_below HX1.out hbn)
    have HT2' := Lib.hid (HT1'.out.below hbn)
    clear hbn q0 q1 q2 q3 q4
    obtain ⟨q0, q1, q2, q3, q4⟩ := Bx5.cells HX2.out
    go_wp2_with fail
    refine (Vp.awake_any _ HT2'.out).mono ?_
    rintro e w3 ⟨rfl, hbn⟩
    have HB3 := Lib.hid (HB2.out.trans (hbn.mono HB2.out.size))
    have HX3 := Lib.hid (blk_below HX2.out hbn)
    have HT3' := Lib.hid (HT2'.out.below hbn)
    clear hbn q0 q1 q2 q3 q4
    obtain ⟨q0, q1, q2, q3, q4⟩ := Bx5.cells HX3.out
    go_wp2
    go_ret
    exact ⟨rfl, HB3.out⟩
  by_cases hhi : 3 < kd
  · skip

    have HE : Hid (textV ⟨kd, n, re, im, ref⟩ = []) := Lib.hid (by unfold textV; rw [if_neg (show ¬ kd = 0 by omega), if_neg (show ¬ kd = 1 by omega), if_neg (show ¬ kd = 2 by omega), if_neg (show ¬ kd = 3 by omega)])
    have HSV : Hid (sameV ⟨kd, n, re, im, ref⟩ ⟨kd, n, re, im, ref⟩ = false) := Lib.hid (by unfold sameV; dsimp only; rw [if_neg (show ¬ kd = 0 by omega), if_neg (show ¬ kd = 1 by omega), if_neg (show ¬ kd = 2 by omega), if_neg (show ¬ kd = 3 by omega)]; simp)
    rw [HE.out] at HTX
    go_enter Tryd.func9, Tryd.ntmps9
    go_wp2_with fail
    refine (HTX.out _ HT0'.out).mono ?_
    rintro e w1 ⟨rfl, hbn⟩
    have HB1 := Lib.hid (HB0.out.trans (hbn.mono HB0.out.size))
    have HX1 := Lib.hid (blk_below HX0.out hbn)
    have HT1' := Lib.hid (HT0'.out.below hbn)
    clear hbn q0 q1 q2 q3 q4
    obtain ⟨q0, q1, q2, q3, q4⟩ := Bx5.cells HX1.out
    go_wp2_with fail
    refine (vsame_is HSV.out _).mono ?_
    rintro e w2 ⟨rfl, hbn⟩
    have HB2 := Lib.hid (HB1.out.trans (hbn.mono HB1.out.size))
    have HX2 := Lib.hid (blk_below HX1.out hbn)
    have HT2' := Lib.hid (HT1'.out.below hbn)
    clear hbn q0 q1 q2 q3 q4
    obtain ⟨q0, q1, q2, q3, q4⟩ := Bx5.cells HX2.out
    go_wp2_with fail
    refine (Vp.awake_any _ HT2'.out).mono ?_
    rintro e w3 ⟨rfl, hbn⟩
    have HB3 := Lib.hid (HB2.out.trans (hbn.mono HB2.out.size))
    have HX3 := Lib.hid (blk_below HX2.out hbn)
    have HT3' := Lib.hid (HT2'.out.below hbn)
    clear hbn q0 q1 q2 q3 q4
    obtain ⟨q0, q1, q2, q3, q4⟩ := Bx5.cells HX3.out
    go_wp2
    go_ret
    exact ⟨rfl, HB3.out⟩
  have hk : kd = 0 ∨ kd = 1 ∨ kd = 2 ∨ kd = 3 := by omega
  clear hlo hhi
  rcases hk with rfl | rfl | rfl | rfl
  · skip
    have HW : Hid (wordsV 3 ⟨0, n, re, im, ref⟩ = some [0]) := Lib.hid (by simp [wordsV])
    have HO : Hid (ofV 3 [0] = some ⟨0, 0, 0, 0, 0⟩) := Lib.hid (by simp [ofV, z5])
    have HL : Hid (∀ x ∈ [(0 : Int)], 0 ≤ x ∧ x < 18446744073709551616) := Lib.hid (by intro x hx; rw [List.mem_singleton.1 hx]; omega)
    have HPL : Hid (plainV ⟨0, n, re, im, ref⟩ = ⟨0, 0, 0, 0, 0⟩) := Lib.hid rfl
    have HS1 : Hid (sameV ⟨0, 0, 0, 0, 0⟩ ⟨0, n, re, im, ref⟩ = true) := Lib.hid (by simp [sameV])
    have HS2 : Hid (sameV ⟨0, 0, 0, 0, 0⟩ ⟨0, n, re, im, ref⟩ = true) := Lib.hid (by simp [sameV])
    have HPA := Lib.hid (fun (W : World) (h : Vp.Tab W) => parse_ag 0 n re im ref (by omega) HPL.out W HWF.out h)
    obtain ⟨tx, htx⟩ : ∃ tx, (textV ⟨0, n, re, im, ref⟩) = tx := ⟨_, rfl⟩
    rw [htx] at HTX HPA
    clear htx
    go_enter Tryd.func9, Tryd.ntmps9
    go_wp2_with fail
    refine (HTX.out _ HT0'.out).mono ?_
    rintro e w1 ⟨rfl, hbn⟩
    have HB1 := Lib.hid (HB0.out.trans (hbn.mono HB0.out.size))
    have HX1 := Lib.hid (blk_below HX0.out hbn)
    have HT1' := Lib.hid (HT0'.out.below hbn)
    clear hbn q0 q1 q2 q3 q4
    obtain ⟨q0, q1, q2, q3, q4⟩ := Bx5.cells HX1.out
    go_wp2_with fail
    refine (HPA.out _ HT1'.out).mono ?_
    rintro e w2 ⟨rfl, hbn⟩
    have HB2 := Lib.hid (HB1.out.trans (hbn.mono HB1.out.size))
    have HX2 := Lib.hid (blk_below HX1.out hbn)
    have HT2' := Lib.hid (HT1'.out.below hbn)
    clear hbn q0 q1 q2 q3 q4
    obtain ⟨q0, q1, q2, q3, q4⟩ := Bx5.cells HX2.out
    obtain ⟨w3, h1, h2, h3⟩ := Vb.stored w2 ⟨0, 0, 0, 0, 0⟩
    have HN3 := Lib.hid (there5 (x := z5) (heap_alloc_new w2 (.cells #[.int .i64 0, .int .i64 0, .int .u64 0, .int .u64 0, .int .i64 0] 24)))
    have H3 := Lib.hid h1
    have HY3 := Lib.hid h2
    have HB3 := Lib.hid (HB2.out.trans (h3.mono HB2.out.size))
    have HX3 := Lib.hid (blk_below HX2.out h3)
    have HT3' := Lib.hid (HT2'.out.below h3)
    clear h1 h2 h3 q0 q1 q2 q3 q4
    obtain ⟨q0, q1, q2, q3, q4⟩ := Bx5.cells HX3.out
    obtain ⟨r0, r1, r2, r3, r4⟩ := Bx5.cells HY3.out
    go_wp2_with (first | (refine store_named (P := Tryd.prog) rfl 24 (.tmp 3) (.tmp 34) rfl w2.heap.size 0 #[.int .i64 0, .int .i64 0, .int .u64 0, .int .u64 0, .int .i64 0] rfl rfl HN3.out infoV (one5 _ _ _ _ _) H3.out ?_) | fail)
    refine (vsame_is HS1.out _).mono ?_
    rintro e w4 ⟨rfl, hbn⟩
    have HB4 := Lib.hid (HB3.out.trans (hbn.mono HB3.out.size))
    have HX4 := Lib.hid (blk_below HX3.out hbn)
    have HT4' := Lib.hid (HT3'.out.below hbn)
    clear hbn q0 q1 q2 q3 q4
    obtain ⟨q0, q1, q2, q3, q4⟩ := Bx5.cells HX4.out
    go_wp2_with fail
    refine (words_is (l := [0]) HW.out HRF.out _).mono ?_
    rintro e w5 ⟨A1, c1, rfl, hc1, hr1, hbn⟩
    have HB5 := Lib.hid (HB4.out.trans (hbn.mono HB4.out.size))
    have HX5 := Lib.hid (blk_below HX4.out hbn)
    have HT5' := Lib.hid (HT4'.out.below hbn)
    have HR := Lib.hid hr1
    clear hr1 hbn q0 q1 q2 q3 q4
    obtain ⟨q0, q1, q2, q3, q4⟩ := Bx5.cells HX5.out
    dsimp only [List.length_cons, List.length_nil] at hc1 ⊢
    go_wp2_with fail
    refine (of_is HO.out A1 c1 _ HR.out HL.out).mono ?_
    rintro e w6 ⟨rfl, hbn⟩
    have HB6 := Lib.hid (HB5.out.trans (hbn.mono HB5.out.size))
    have HX6 := Lib.hid (blk_below HX5.out hbn)
    have HT6' := Lib.hid (HT5'.out.below hbn)
    clear hbn q0 q1 q2 q3 q4
    obtain ⟨q0, q1, q2, q3, q4⟩ := Bx5.cells HX6.out
    clear r0 r1 r2 r3 r4
    obtain ⟨w7, h1, h2, h3⟩ := Vb.stored w6 ⟨0, 0, 0, 0, 0⟩
    have HN7 := Lib.hid (there5 (x := z5) (heap_alloc_new w6 (.cells #[.int .i64 0, .int .i64 0, .int .u64 0, .int .u64 0, .int .i64 0] 24)))
    have H7 := Lib.hid h1
    have HY7 := Lib.hid h2
    have HB7 := Lib.hid (HB6.out.trans (h3.mono HB6.out.size))
    have HX7 := Lib.hid (blk_below HX6.out h3)
    have HT7' := Lib.hid (HT6'.out.below h3)
    clear h1 h2 h3 q0 q1 q2 q3 q4
    obtain ⟨q0, q1, q2, q3, q4⟩ := Bx5.cells HX7.out
    obtain ⟨r0, r1, r2, r3, r4⟩ := Bx5.cells HY7.out
    go_wp2_with (first | (refine store_named (P := Tryd.prog) rfl 24 (.tmp 8) (.tmp 76) rfl w6.heap.size 0 #[.int .i64 0, .int .i64 0, .int .u64 0, .int .u64 0, .int .i64 0] rfl rfl HN7.out infoV (one5 _ _ _ _ _) H7.out ?_) | fail)
    refine (vsame_is HS2.out _).mono ?_
    rintro e w8 ⟨rfl, hbn⟩
    have HB8 := Lib.hid (HB7.out.trans (hbn.mono HB7.out.size))
    have HX8 := Lib.hid (blk_below HX7.out hbn)
    have HT8' := Lib.hid (HT7'.out.below hbn)
    clear hbn q0 q1 q2 q3 q4
    obtain ⟨q0, q1, q2, q3, q4⟩ := Bx5.cells HX8.out
    go_wp2_with fail
    refine (Vp.awake_any _ HT8'.out).mono ?_
    rintro e w9 ⟨rfl, hbn⟩
    have HB9 := Lib.hid (HB8.out.trans (hbn.mono HB8.out.size))
    have HX9 := Lib.hid (blk_below HX8.out hbn)
    have HT9' := Lib.hid (HT8'.out.below hbn)
    clear hbn q0 q1 q2 q3 q4
    obtain ⟨q0, q1, q2, q3, q4⟩ := Bx5.cells HX9.out
    go_wp2
    go_ret
    exact ⟨rfl, HB9.out⟩
  · skip
    have HW : Hid (wordsV 1 ⟨1, n, re, im, ref⟩ = some [IntKind.u64.wrap n]) := Lib.hid (by simp [wordsV])
    have HO : Hid (ofV 1 [IntKind.u64.wrap n] = some ⟨1, n, 0, 0, 0⟩) := Lib.hid (by simp [ofV, HBN.out])
    have HL : Hid (∀ x ∈ [IntKind.u64.wrap n], 0 ≤ x ∧ x < 18446744073709551616) := Lib.hid (by intro x hx; rw [List.mem_singleton.1 hx, IntKind.wrap_u64]; omega)
    have HPL : Hid (plainV ⟨1, n, re, im, ref⟩ = ⟨1, n, 0, 0, 0⟩) := Lib.hid rfl
    have HS1 : Hid (sameV ⟨1, n, 0, 0, 0⟩ ⟨1, n, re, im, ref⟩ = true) := Lib.hid (by simp [sameV])
    have HS2 : Hid (sameV ⟨1, n, 0, 0, 0⟩ ⟨1, n, re, im, ref⟩ = true) := Lib.hid (by simp [sameV])
    have HPA := Lib.hid (fun (W : World) (h : Vp.Tab W) => parse_ag 1 n re im ref (by omega) HPL.out W HWF.out h)
    obtain ⟨tx, htx⟩ : ∃ tx, (textV ⟨1, n, re, im, ref⟩) = tx := ⟨_, rfl⟩
    rw [htx] at HTX HPA
    clear htx
    go_enter Tryd.func9, Tryd.ntmps9
    go_wp2_with fail
    refine (HTX.out _ HT0'.out).mono ?_
    rintro e w1 ⟨rfl, hbn⟩
    have HB1 := Lib.hid (HB0.out.trans (hbn.mono HB0.out.size))
    have HX1 := Lib.hid (blk_below HX0.out hbn)
    have HT1' := Lib.hid (HT0'.out.below hbn)
    clear hbn q0 q1 q2 q3 q4
    obtain ⟨q0, q1, q2, q3, q4⟩ := Bx5.cells HX1.out
    go_wp2_with fail
    refine (HPA.out _ HT1'.out).mono ?_
    rintro e w2 ⟨rfl, hbn⟩
    have HB2 := Lib.hid (HB1.out.trans (hbn.mono HB1.out.size))
    have HX2 := Lib.hid (blk_below HX1.out hbn)
    have HT2' := Lib.hid (HT1'.out.below hbn)
    clear hbn q0 q1 q2 q3 q4
    obtain ⟨q0, q1, q2, q3, q4⟩ := Bx5.cells HX2.out
    obtain ⟨w3, h1, h2, h3⟩ := Vb.stored w2 ⟨1, n, 0, 0, 0⟩
    have HN3 := Lib.hid (there5 (x := z5) (heap_alloc_new w2 (.cells #[.int .i64 0, .int .i64 0, .int .u64 0, .int .u64 0, .int .i64 0] 24)))
    have H3 := Lib.hid h1
    have HY3 := Lib.hid h2
    have HB3 := Lib.hid (HB2.out.trans (h3.mono HB2.out.size))
    have HX3 := Lib.hid (blk_below HX2.out h3)
    have HT3' := Lib.hid (HT2'.out.below h3)
    clear h1 h2 h3 q0 q1 q2 q3 q4
    obtain ⟨q0, q1, q2, q3, q4⟩ := Bx5.cells HX3.out
    obtain ⟨r0, r1, r2, r3, r4⟩ := Bx5.cells HY3.out
    go_wp2_with (first | (refine store_named (P := Tryd.prog) rfl 24 (.tmp 3) (.tmp 34) rfl w2.heap.size 0 #[.int .i64 1, .int .i64 n, .int .u64 0, .int .u64 0, .int .i64 0] rfl rfl HN3.out infoV (one5 _ _ _ _ _) H3.out ?_) | fail)
    refine (vsame_is HS1.out _).mono ?_
    rintro e w4 ⟨rfl, hbn⟩
    have HB4 := Lib.hid (HB3.out.trans (hbn.mono HB3.out.size))
    have HX4 := Lib.hid (blk_below HX3.out hbn)
    have HT4' := Lib.hid (HT3'.out.below hbn)
    clear hbn q0 q1 q2 q3 q4
    obtain ⟨q0, q1, q2, q3, q4⟩ := Bx5.cells HX4.out
    go_wp2_with fail
    refine (words_is (l := [IntKind.u64.wrap n]) HW.out HRF.out _).mono ?_
    rintro e w5 ⟨A1, c1, rfl, hc1, hr1, hbn⟩
    have HB5 := Lib.hid (HB4.out.trans (hbn.mono HB4.out.size))
    have HX5 := Lib.hid (blk_below HX4.out hbn)
    have HT5' := Lib.hid (HT4'.out.below hbn)
    have HR := Lib.hid hr1
    clear hr1 hbn q0 q1 q2 q3 q4
    obtain ⟨q0, q1, q2, q3, q4⟩ := Bx5.cells HX5.out
    dsimp only [List.length_cons, List.length_nil] at hc1 ⊢
    go_wp2_with fail
    refine (of_is HO.out A1 c1 _ HR.out HL.out).mono ?_
    rintro e w6 ⟨rfl, hbn⟩
    have HB6 := Lib.hid (HB5.out.trans (hbn.mono HB5.out.size))
    have HX6 := Lib.hid (blk_below HX5.out hbn)
    have HT6' := Lib.hid (HT5'.out.below hbn)
    clear hbn q0 q1 q2 q3 q4
    obtain ⟨q0, q1, q2, q3, q4⟩ := Bx5.cells HX6.out
    clear r0 r1 r2 r3 r4
    obtain ⟨w7, h1, h2, h3⟩ := Vb.stored w6 ⟨1, n, 0, 0, 0⟩
    have HN7 := Lib.hid (there5 (x := z5) (heap_alloc_new w6 (.cells #[.int .i64 0, .int .i64 0, .int .u64 0, .int .u64 0, .int .i64 0] 24)))
    have H7 := Lib.hid h1
    have HY7 := Lib.hid h2
    have HB7 := Lib.hid (HB6.out.trans (h3.mono HB6.out.size))
    have HX7 := Lib.hid (blk_below HX6.out h3)
    have HT7' := Lib.hid (HT6'.out.below h3)
    clear h1 h2 h3 q0 q1 q2 q3 q4
    obtain ⟨q0, q1, q2, q3, q4⟩ := Bx5.cells HX7.out
    obtain ⟨r0, r1, r2, r3, r4⟩ := Bx5.cells HY7.out
    go_wp2_with (first | (refine store_named (P := Tryd.prog) rfl 24 (.tmp 8) (.tmp 76) rfl w6.heap.size 0 #[.int .i64 1, .int .i64 n, .int .u64 0, .int .u64 0, .int .i64 0] rfl rfl HN7.out infoV (one5 _ _ _ _ _) H7.out ?_) | fail)
    refine (vsame_is HS2.out _).mono ?_
    rintro e w8 ⟨rfl, hbn⟩
    have HB8 := Lib.hid (HB7.out.trans (hbn.mono HB7.out.size))
    have HX8 := Lib.hid (blk_below HX7.out hbn)
    have HT8' := Lib.hid (HT7'.out.below hbn)
    clear hbn q0 q1 q2 q3 q4
    obtain ⟨q0, q1, q2, q3, q4⟩ := Bx5.cells HX8.out
    go_wp2_with fail
    refine (Vp.awake_any _ HT8'.out).mono ?_
    rintro e w9 ⟨rfl, hbn⟩
    have HB9 := Lib.hid (HB8.out.trans (hbn.mono HB8.out.size))
    have HX9 := Lib.hid (blk_below HX8.out hbn)
    have HT9' := Lib.hid (HT8'.out.below hbn)
    clear hbn q0 q1 q2 q3 q4
    obtain ⟨q0, q1, q2, q3, q4⟩ := Bx5.cells HX9.out
    go_wp2
    go_ret
    exact ⟨rfl, HB9.out⟩
  · skip
    have HW : Hid (wordsV 2 ⟨2, n, re, im, ref⟩ = some [re, im]) := Lib.hid (by simp [wordsV])
    have HO : Hid (ofV 2 [re, im] = some ⟨2, 0, re, im, 0⟩) := Lib.hid (by simp [ofV])
    have HL : Hid (∀ x ∈ [re, im], 0 ≤ x ∧ x < 18446744073709551616) := Lib.hid (by intro x hx; have h1 := HWF.out.a0; have h2 := HWF.out.a1; have h3 := HWF.out.b0; have h4 := HWF.out.b1; dsimp only at h1 h2 h3 h4; simp only [List.mem_cons, List.not_mem_nil, or_false] at hx; rcases hx with rfl | rfl <;> exact ⟨by assumption, by assumption⟩)
    have HPL : Hid (plainV ⟨2, n, re, im, ref⟩ = ⟨2, 0, re, im, 0⟩) := Lib.hid rfl
    have HS1 : Hid (sameV ⟨2, 0, re, im, 0⟩ ⟨2, n, re, im, ref⟩ = true) := Lib.hid (by simp [sameV])
    have HS2 : Hid (sameV ⟨2, 0, re, im, 0⟩ ⟨2, n, re, im, ref⟩ = true) := Lib.hid (by simp [sameV])
    have HPA := Lib.hid (fun (W : World) (h : Vp.Tab W) => parse_ag 2 n re im ref (by omega) HPL.out W HWF.out h)
    obtain ⟨tx, htx⟩ : ∃ tx, (textV ⟨2, n, re, im, ref⟩) = tx := ⟨_, rfl⟩
    rw [htx] at HTX HPA
    clear htx
    go_enter Tryd.func9, Tryd.ntmps9
    go_wp2_with fail
    refine (HTX.out _ HT0'.out).mono ?_
    rintro e w1 ⟨rfl, hbn⟩
    have HB1 := Lib.hid (HB0.out.trans (hbn.mono HB0.out.size))
    have HX1 := Lib.hid (blk_below HX0.out hbn)
    have HT1' := Lib.hid (HT0'.out.below hbn)
    clear hbn q0 q1 q2 q3 q4
    obtain ⟨q0, q1, q2, q3, q4⟩ := Bx5.cells HX1.out
    go_wp2_with fail
    refine (HPA.out _ HT1'.out).mono ?_
    rintro e w2 ⟨rfl, hbn⟩
    have HB2 := Lib.hid (HB1.out.trans (hbn.mono HB1.out.size))
    have HX2 := Lib.hid (blk_below HX1.out hbn)
    have HT2' := Lib.hid (HT1'.out.below hbn)
    clear hbn q0 q1 q2 q3 q4
    obtain ⟨q0, q1, q2, q3, q4⟩ := Bx5.cells HX2.out
    obtain ⟨w3, h1, h2, h3⟩ := Vb.stored w2 ⟨2, 0, re, im, 0⟩
    have HN3 := Lib.hid (there5 (x := z5) (heap_alloc_new w2 (.cells #[.int .i64 0, .int .i64 0, .int .u64 0, .int .u64 0, .int .i64 0] 24)))
    have H3 := Lib.hid h1
    have HY3 := Lib.hid h2
    have HB3 := Lib.hid (HB2.out.trans (h3.mono HB2.out.size))
    have HX3 := Lib.hid (blk_below HX2.out h3)
    have HT3' := Lib.hid (HT2'.out.below h3)
    clear h1 h2 h3 q0 q1 q2 q3 q4
    obtain ⟨q0, q1, q2, q3, q4⟩ := Bx5.cells HX3.out
    obtain ⟨r0, r1, r2, r3, r4⟩ := Bx5.cells HY3.out
    go_wp2_with (first | (refine store_named (P := Tryd.prog) rfl 24 (.tmp 3) (.tmp 34) rfl w2.heap.size 0 #[.int .i64 2, .int .i64 0, .int .u64 re, .int .u64 im, .int .i64 0] rfl rfl HN3.out infoV (one5 _ _ _ _ _) H3.out ?_) | fail)
    refine (vsame_is HS1.out _).mono ?_
    rintro e w4 ⟨rfl, hbn⟩
    have HB4 := Lib.hid (HB3.out.trans (hbn.mono HB3.out.size))
    have HX4 := Lib.hid (blk_below HX3.out hbn)
    have HT4' := Lib.hid (HT3'.out.below hbn)
    clear hbn q0 q1 q2 q3 q4
    obtain ⟨q0, q1, q2, q3, q4⟩ := Bx5.cells HX4.out
    go_wp2_with fail
    refine (words_is (l := [re, im]) HW.out HRF.out _).mono ?_
    rintro e w5 ⟨A1, c1, rfl, hc1, hr1, hbn⟩
    have HB5 := Lib.hid (HB4.out.trans (hbn.mono HB4.out.size))
    have HX5 := Lib.hid (blk_below HX4.out hbn)
    have HT5' := Lib.hid (HT4'.out.below hbn)
    have HR := Lib.hid hr1
    clear hr1 hbn q0 q1 q2 q3 q4
    obtain ⟨q0, q1, q2, q3, q4⟩ := Bx5.cells HX5.out
    dsimp only [List.length_cons, List.length_nil] at hc1 ⊢
    go_wp2_with fail
    refine (of_is HO.out A1 c1 _ HR.out HL.out).mono ?_
    rintro e w6 ⟨rfl, hbn⟩
    have HB6 := Lib.hid (HB5.out.trans (hbn.mono HB5.out.size))
    have HX6 := Lib.hid (blk_below HX5.out hbn)
    have HT6' := Lib.hid (HT5'.out.below hbn)
    clear hbn q0 q1 q2 q3 q4
    obtain ⟨q0, q1, q2, q3, q4⟩ := Bx5.cells HX6.out
    clear r0 r1 r2 r3 r4
    obtain ⟨w7, h1, h2, h3⟩ := Vb.stored w6 ⟨2, 0, re, im, 0⟩
    have HN7 := Lib.hid (there5 (x := z5) (heap_alloc_new w6 (.cells #[.int .i64 0, .int .i64 0, .int .u64 0, .int .u64 0, .int .i64 0] 24)))
    have H7 := Lib.hid h1
    have HY7 := Lib.hid h2
    have HB7 := Lib.hid (HB6.out.trans (h3.mono HB6.out.size))
    have HX7 := Lib.hid (blk_below HX6.out h3)
    have HT7' := Lib.hid (HT6'.out.below h3)
    clear h1 h2 h3 q0 q1 q2 q3 q4
    obtain ⟨q0, q1, q2, q3, q4⟩ := Bx5.cells HX7.out
    obtain ⟨r0, r1, r2, r3, r4⟩ := Bx5.cells HY7.out
    go_wp2_with (first | (refine store_named (P := Tryd.prog) rfl 24 (.tmp 8) (.tmp 76) rfl w6.heap.size 0 #[.int .i64 2, .int .i64 0, .int .u64 re, .int .u64 im, .int .i64 0] rfl rfl HN7.out infoV (one5 _ _ _ _ _) H7.out ?_) | fail)
    refine (vsame_is HS2.out _).mono ?_
    rintro e w8 ⟨rfl, hbn⟩
    have HB8 := Lib.hid (HB7.out.trans (hbn.mono HB7.out.size))
    have HX8 := Lib.hid (blk_below HX7.out hbn)
    have HT8' := Lib.hid (HT7'.out.below hbn)
    clear hbn q0 q1 q2 q3 q4
    obtain ⟨q0, q1, q2, q3, q4⟩ := Bx5.cells HX8.out
    go_wp2_with fail
    refine (Vp.awake_any _ HT8'.out).mono ?_
    rintro e w9 ⟨rfl, hbn⟩
    have HB9 := Lib.hid (HB8.out.trans (hbn.mono HB8.out.size))
    have HX9 := Lib.hid (blk_below HX8.out hbn)
    have HT9' := Lib.hid (HT8'.out.below hbn)
    clear hbn q0 q1 q2 q3 q4
    obtain ⟨q0, q1, q2, q3, q4⟩ := Bx5.cells HX9.out
    go_wp2
    go_ret
    exact ⟨rfl, HB9.out⟩
  · by_cases hin : 0 ≤ ref ∧ ref ≤ 1099511627776
    · skip
      have HIN := Lib.hid hin
      clear hin
      have HW : Hid (wordsV 3 ⟨3, n, re, im, ref⟩ = some [ref + 1]) := Lib.hid (by have := HIN.out; unfold wordsV; rw [if_neg (by omega), if_neg (by omega), if_neg (by simp), if_pos ⟨rfl, rfl, this.1, this.2⟩])
      have HO : Hid (ofV 3 [ref + 1] = some ⟨3, 0, 0, 0, ref⟩) := Lib.hid (by have := HIN.out; unfold ofV; rw [if_neg (by omega), if_neg (by omega), if_neg (by simp; omega), if_pos ⟨rfl, rfl, by show ref + 1 ≤ _; omega⟩]; simp)
      have HL : Hid (∀ x ∈ [ref + 1], 0 ≤ x ∧ x < 18446744073709551616) := Lib.hid (by have := HIN.out; intro x hx; rw [List.mem_singleton.1 hx]; omega)
      have HPL : Hid (plainV ⟨3, n, re, im, ref⟩ = ⟨3, 0, 0, 0, ref⟩) := Lib.hid rfl
      have HS1 : Hid (sameV ⟨3, 0, 0, 0, ref⟩ ⟨3, n, re, im, ref⟩ = true) := Lib.hid (by simp [sameV])
      have HS2 : Hid (sameV ⟨3, 0, 0, 0, ref⟩ ⟨3, n, re, im, ref⟩ = true) := Lib.hid (by simp [sameV])
      have HPA := Lib.hid (fun (W : World) (h : Vp.Tab W) => parse_ag 3 n re im ref (by omega) HPL.out W HWF.out h)
      obtain ⟨tx, htx⟩ : ∃ tx, (textV ⟨3, n, re, im, ref⟩) = tx := ⟨_, rfl⟩
      rw [htx] at HTX HPA
      clear htx
      go_enter Tryd.func9, Tryd.ntmps9
      go_wp2_with fail
      refine (HTX.out _ HT0'.out).mono ?_
      rintro e w1 ⟨rfl, hbn⟩
      have HB1 := Lib.hid (HB0.out.trans (hbn.mono HB0.out.size))
      have HX1 := Lib.hid (blk_below HX0.out hbn)
      have HT1' := Lib.hid (HT0'.out.below hbn)
      clear hbn q0 q1 q2 q3 q4
      obtain ⟨q0, q1, q2, q3, q4⟩ := Bx5.cells HX1.out
      go_wp2_with fail
      refine (HPA.out _ HT1'.out).mono ?_
      rintro e w2 ⟨rfl, hbn⟩
      have HB2 := Lib.hid (HB1.out.trans (hbn.mono HB1.out.size))
      have HX2 := Lib.hid (blk_below HX1.out hbn)
      have HT2' := Lib.hid (HT1'.out.below hbn)
      clear hbn q0 q1 q2 q3 q4
      obtain ⟨q0, q1, q2, q3, q4⟩ := Bx5.cells HX2.out
      obtain ⟨w3, h1, h2, h3⟩ := Vb.stored w2 ⟨3, 0, 0, 0, ref⟩
      have HN3 := Lib.hid (there5 (x := z5) (heap_alloc_new w2 (.cells #[.int .i64 0, .int .i64 0, .int .u64 0, .int .u64 0, .int .i64 0] 24)))
      have H3 := Lib.hid h1
      have HY3 := Lib.hid h2
      have HB3 := Lib.hid (HB2.out.trans (h3.mono HB2.out.size))
      have HX3 := Lib.hid (blk_below HX2.out h3)
      have HT3' := Lib.hid (HT2'.out.below h3)
      clear h1 h2 h3 q0 q1 q2 q3 q4
      obtain ⟨q0, q1, q2, q3, q4⟩ := Bx5.cells HX3.out
      obtain ⟨r0, r1, r2, r3, r4⟩ := Bx5.cells HY3.out
      go_wp2_with (first | (refine store_named (P := Tryd.prog) rfl 24 (.tmp 3) (.tmp 34) rfl w2.heap.size 0 #[.int .i64 3, .int .i64 0, .int .u64 0, .int .u64 0, .int .i64 ref] rfl rfl HN3.out infoV (one5 _ _ _ _ _) H3.out ?_) | fail)
      refine (vsame_is HS1.out _).mono ?_
      rintro e w4 ⟨rfl, hbn⟩
      have HB4 := Lib.hid (HB3.out.trans (hbn.mono HB3.out.size))
      have HX4 := Lib.hid (blk_below HX3.out hbn)
      have HT4' := Lib.hid (HT3'.out.below hbn)
      clear hbn q0 q1 q2 q3 q4
      obtain ⟨q0, q1, q2, q3, q4⟩ := Bx5.cells HX4.out
      go_wp2_with fail
      refine (words_is (l := [ref + 1]) HW.out HRF.out _).mono ?_
      rintro e w5 ⟨A1, c1, rfl, hc1, hr1, hbn⟩
      have HB5 := Lib.hid (HB4.out.trans (hbn.mono HB4.out.size))
      have HX5 := Lib.hid (blk_below HX4.out hbn)
      have HT5' := Lib.hid (HT4'.out.below hbn)
      have HR := Lib.hid hr1
      clear hr1 hbn q0 q1 q2 q3 q4
      obtain ⟨q0, q1, q2, q3, q4⟩ := Bx5.cells HX5.out
      dsimp only [List.length_cons, List.length_nil] at hc1 ⊢
      go_wp2_with fail
      refine (of_is HO.out A1 c1 _ HR.out HL.out).mono ?_
      rintro e w6 ⟨rfl, hbn⟩
      have HB6 := Lib.hid (HB5.out.trans (hbn.mono HB5.out.size))
      have HX6 := Lib.hid (blk_below HX5.out hbn)
      have HT6' := Lib.hid (HT5'.out.below hbn)
      clear hbn q0 q1 q2 q3 q4
      obtain ⟨q0, q1, q2, q3, q4⟩ := Bx5.cells HX6.out
      clear r0 r1 r2 r3 r4
      obtain ⟨w7, h1, h2, h3⟩ := Vb.stored w6 ⟨3, 0, 0, 0, ref⟩
      have HN7 := Lib.hid (there5 (x := z5) (heap_alloc_new w6 (.cells #[.int .i64 0, .int .i64 0, .int .u64 0, .int .u64 0, .int .i64 0] 24)))
      have H7 := Lib.hid h1
      have HY7 := Lib.hid h2
      have HB7 := Lib.hid (HB6.out.trans (h3.mono HB6.out.size))
      have HX7 := Lib.hid (blk_below HX6.out h3)
      have HT7' := Lib.hid (HT6'.out.below h3)
      clear h1 h2 h3 q0 q1 q2 q3 q4
      obtain ⟨q0, q1, q2, q3, q4⟩ := Bx5.cells HX7.out
      obtain ⟨r0, r1, r2, r3, r4⟩ := Bx5.cells HY7.out
      go_wp2_with (first | (refine store_named (P := Tryd.prog) rfl 24 (.tmp 8) (.tmp 76) rfl w6.heap.size 0 #[.int .i64 3, .int .i64 0, .int .u64 0, .int .u64 0, .int .i64 ref] rfl rfl HN7.out infoV (one5 _ _ _ _ _) H7.out ?_) | fail)
      refine (vsame_is HS2.out _).mono ?_
      rintro e w8 ⟨rfl, hbn⟩
      have HB8 := Lib.hid (HB7.out.trans (hbn.mono HB7.out.size))
      have HX8 := Lib.hid (blk_below HX7.out hbn)
      have HT8' := Lib.hid (HT7'.out.below hbn)
      clear hbn q0 q1 q2 q3 q4
      obtain ⟨q0, q1, q2, q3, q4⟩ := Bx5.cells HX8.out
      go_wp2_with fail
      refine (Vp.awake_any _ HT8'.out).mono ?_
      rintro e w9 ⟨rfl, hbn⟩
      have HB9 := Lib.hid (HB8.out.trans (hbn.mono HB8.out.size))
      have HX9 := Lib.hid (blk_below HX8.out hbn)
      have HT9' := Lib.hid (HT8'.out.below hbn)
      clear hbn q0 q1 q2 q3 q4
      obtain ⟨q0, q1, q2, q3, q4⟩ := Bx5.cells HX9.out
      go_wp2
      go_ret
      exact ⟨rfl, HB9.out⟩
    · by_cases hlo : ref < 0
      · skip

        have HW : Hid (wordsV 3 ⟨3, n, re, im, ref⟩ = none) := Lib.hid (by unfold wordsV; rw [if_neg (by omega), if_neg (by omega), if_neg (by simp), if_neg (by show ¬ (3 = 3 ∧ (3 : Int) = 3 ∧ 0 ≤ ref ∧ ref ≤ _); omega)])
        have HPL : Hid (plainV ⟨3, n, re, im, ref⟩ = ⟨3, 0, 0, 0, ref⟩) := Lib.hid rfl
        have HS1 : Hid (sameV ⟨3, 0, 0, 0, ref⟩ ⟨3, n, re, im, ref⟩ = true) := Lib.hid (by simp [sameV])
        have HPA := Lib.hid (fun (W : World) (h : Vp.Tab W) => parse_ag 3 n re im ref (by omega) HPL.out W HWF.out h)
        obtain ⟨tx, htx⟩ : ∃ tx, (textV ⟨3, n, re, im, ref⟩) = tx := ⟨_, rfl⟩
        rw [htx] at HTX HPA
        clear htx
        go_enter Tryd.func9, Tryd.ntmps9
        go_wp2_with fail
        refine (HTX.out _ HT0'.out).mono ?_
        rintro e w1 ⟨rfl, hbn⟩
        have HB1 := Lib.hid (HB0.out.trans (hbn.mono HB0.out.size))
        have HX1 := Lib.hid (blk_below HX0.out hbn)
        have HT1' := Lib.hid (HT0'.out.below hbn)
        clear hbn q0 q1 q2 q3 q4
        obtain ⟨q0, q1, q2, q3, q4⟩ := Bx5.cells HX1.out
        go_wp2_with fail
        refine (HPA.out _ HT1'.out).mono ?_
        rintro e w2 ⟨rfl, hbn⟩
        have HB2 := Lib.hid (HB1.out.trans (hbn.mono HB1.out.size))
        have HX2 := Lib.hid (blk_below HX1.out hbn)
        have HT2' := Lib.hid (HT1'.out.below hbn)
        clear hbn q0 q1 q2 q3 q4
        obtain ⟨q0, q1, q2, q3, q4⟩ := Bx5.cells HX2.out
        obtain ⟨w3, h1, h2, h3⟩ := Vb.stored w2 ⟨3, 0, 0, 0, ref⟩
        have HN3 := Lib.hid (there5 (x := z5) (heap_alloc_new w2 (.cells #[.int .i64 0, .int .i64 0, .int .u64 0, .int .u64 0, .int .i64 0] 24)))
        have H3 := Lib.hid h1
        have HY3 := Lib.hid h2
        have HB3 := Lib.hid (HB2.out.trans (h3.mono HB2.out.size))
        have HX3 := Lib.hid (blk_below HX2.out h3)
        have HT3' := Lib.hid (HT2'.out.below h3)
        clear h1 h2 h3 q0 q1 q2 q3 q4
        obtain ⟨q0, q1, q2, q3, q4⟩ := Bx5.cells HX3.out
        obtain ⟨r0, r1, r2, r3, r4⟩ := Bx5.cells HY3.out
        go_wp2_with (first | (refine store_named (P := Tryd.prog) rfl 24 (.tmp 3) (.tmp 34) rfl w2.heap.size 0 #[.int .i64 3, .int .i64 0, .int .u64 0, .int .u64 0, .int .i64 ref] rfl rfl HN3.out infoV (one5 _ _ _ _ _) H3.out ?_) | fail)
        refine (vsame_is HS1.out _).mono ?_
        rintro e w4 ⟨rfl, hbn⟩
        have HB4 := Lib.hid (HB3.out.trans (hbn.mono HB3.out.size))
        have HX4 := Lib.hid (blk_below HX3.out hbn)
        have HT4' := Lib.hid (HT3'.out.below hbn)
        clear hbn q0 q1 q2 q3 q4
        obtain ⟨q0, q1, q2, q3, q4⟩ := Bx5.cells HX4.out
        go_wp2_with fail
        refine (words_not HW.out HRF.out _).mono ?_
        rintro e w5 ⟨A1, c1, rfl, hbn⟩
        have HB5 := Lib.hid (HB4.out.trans (hbn.mono HB4.out.size))
        have HX5 := Lib.hid (blk_below HX4.out hbn)
        have HT5' := Lib.hid (HT4'.out.below hbn)
        clear hbn q0 q1 q2 q3 q4
        obtain ⟨q0, q1, q2, q3, q4⟩ := Bx5.cells HX5.out
        go_wp2_with fail
        refine (Vp.awake_any _ HT5'.out).mono ?_
        rintro e w6 ⟨rfl, hbn⟩
        have HB6 := Lib.hid (HB5.out.trans (hbn.mono HB5.out.size))
        have HX6 := Lib.hid (blk_below HX5.out hbn)
        have HT6' := Lib.hid (HT5'.out.below hbn)
        clear hbn q0 q1 q2 q3 q4
        obtain ⟨q0, q1, q2, q3, q4⟩ := Bx5.cells HX6.out
        go_wp2
        go_ret
        exact ⟨rfl, HB6.out⟩
      · have hhi : 1099511627776 < ref := by omega

        have HW : Hid (wordsV 3 ⟨3, n, re, im, ref⟩ = none) := Lib.hid (by unfold wordsV; rw [if_neg (by omega), if_neg (by omega), if_neg (by simp), if_neg (by show ¬ (3 = 3 ∧ (3 : Int) = 3 ∧ 0 ≤ ref ∧ ref ≤ _); omega)])
        have HPL : Hid (plainV ⟨3, n, re, im, ref⟩ = ⟨3, 0, 0, 0, ref⟩) := Lib.hid rfl
        have HS1 : Hid (sameV ⟨3, 0, 0, 0, ref⟩ ⟨3, n, re, im, ref⟩ = true) := Lib.hid (by simp [sameV])
        have HPA := Lib.hid (fun (W : World) (h : Vp.Tab W) => parse_ag 3 n re im ref (by omega) HPL.out W HWF.out h)
        obtain ⟨tx, htx⟩ : ∃ tx, (textV ⟨3, n, re, im, ref⟩) = tx := ⟨_, rfl⟩
        rw [htx] at HTX HPA
        clear htx
        go_enter Tryd.func9, Tryd.ntmps9
        go_wp2_with fail
        refine (HTX.out _ HT0'.out).mono ?_
        rintro e w1 ⟨rfl, hbn⟩
        have HB1 := Lib.hid (HB0.out.trans (hbn.mono HB0.out.size))
        have HX1 := Lib.hid (blk_below HX0.out hbn)
        have HT1' := Lib.hid (HT0'.out.below hbn)
        clear hbn q0 q1 q2 q3 q4
        obtain ⟨q0, q1, q2, q3, q4⟩ := Bx5.cells HX1.out
        go_wp2_with fail
        refine (HPA.out _ HT1'.out).mono ?_
        rintro e w2 ⟨rfl, hbn⟩
        have HB2 := Lib.hid (HB1.out.trans (hbn.mono HB1.out.size))
        have HX2 := Lib.hid (blk_below HX1.out hbn)
        have HT2' := Lib.hid (HT1'.out.below hbn)
        clear hbn q0 q1 q2 q3 q4
        obtain ⟨q0, q1, q2, q3, q4⟩ := Bx5.cells HX2.out
        obtain ⟨w3, h1, h2, h3⟩ := Vb.stored w2 ⟨3, 0, 0, 0, ref⟩
        have HN3 := Lib.hid (there5 (x := z5) (heap_alloc_new w2 (.cells #[.int .i64 0, .int .i64 0, .int .u64 0, .int .u64 0, .int .i64 0] 24)))
        have H3 := Lib.hid h1
        have HY3 := Lib.hid h2
        have HB3 := Lib.hid (HB2.out.trans (h3.mono HB2.out.size))
        have HX3 := Lib.hid (blk_below HX2.out h3)
        have HT3' := Lib.hid (HT2'.out.below h3)
        clear h1 h2 h3 q0 q1 q2 q3 q4
        obtain ⟨q0, q1, q2, q3, q4⟩ := Bx5.cells HX3.out
        obtain ⟨r0, r1, r2, r3, r4⟩ := Bx5.cells HY3.out
        go_wp2_with (first | (refine store_named (P := Tryd.prog) rfl 24 (.tmp 3) (.tmp 34) rfl w2.heap.size 0 #[.int .i64 3, .int .i64 0, .int .u64 0, .int .u64 0, .int .i64 ref] rfl rfl HN3.out infoV (one5 _ _ _ _ _) H3.out ?_) | fail)
        refine (vsame_is HS1.out _).mono ?_
        rintro e w4 ⟨rfl, hbn⟩
        have HB4 := Lib.hid (HB3.out.trans (hbn.mono HB3.out.size))
        have HX4 := Lib.hid (blk_below HX3.out hbn)
        have HT4' := Lib.hid (HT3'.out.below hbn)
        clear hbn q0 q1 q2 q3 q4
        obtain ⟨q0, q1, q2, q3, q4⟩ := Bx5.cells HX4.out
        go_wp2_with fail
        refine (words_not HW.out HRF.out _).mono ?_
        rintro e w5 ⟨A1, c1, rfl, hbn⟩
        have HB5 := Lib.hid (HB4.out.trans (hbn.mono HB4.out.size))
        have HX5 := Lib.hid (blk_below HX4.out hbn)
        have HT5' := Lib.hid (HT4'.out.below hbn)
        clear hbn q0 q1 q2 q3 q4
        obtain ⟨q0, q1, q2, q3, q4⟩ := Bx5.cells HX5.out
        go_wp2_with fail
        refine (Vp.awake_any _ HT5'.out).mono ?_
        rintro e w6 ⟨rfl, hbn⟩
        have HB6 := Lib.hid (HB5.out.trans (hbn.mono HB5.out.size))
        have HX6 := Lib.hid (blk_below HX5.out hbn)
        have HT6' := Lib.hid (HT5'.out.below hbn)
        clear hbn q0 q1 q2 q3 q4
        obtain ⟨q0, q1, q2, q3, q4⟩ := Bx5.cells HX6.out
        go_wp2
        go_ret
        exact ⟨rfl, HB6.out⟩

theorem own : ownKnob Tryd.prog.godebug = none := by kernel_rfl
theorem laidOut : laidOutB Tryd.prog = true := by kernel_rfl
set_option maxRecDepth 100000 in
theorem lifted (os : Os) (started : os.Started) (H : Type) (enc : TypeId × Value → H) :
    ReturnsInHanded {} Tryd.checked os 9 .any (fun w args => (Rows.valueBackSpec.pre enc Tryd.prog Tryd.f9 [] false w args ∧ laidMetH Tryd.prog Vt.laid w) ∧ sizedMet enc Tryd.prog Tryd.f9 (OpenSpec.ofChange Rows.valueBackSpec) false w args) (Rows.valueBackSpec.post enc Tryd.prog Tryd.f9 false true false false) := by
  refine returnsInHanded_of_change_and (C := Tryd.checked) (X := fun w _ => laidMetH Tryd.prog Vt.laid w) (fun _ _ _ hh h => h.of_heap hh) own started (by kernel_rfl) Tryd.func9
    (ChangeSpec.witness_shaped (enc := enc) (C := Tryd.checked) (os := os) (X := fun w _ => laidMetH Tryd.prog Vt.laid w) false (World.doorLaid Tryd.prog 400 os) #[.agg #[.int .i64 0, .int .i64 0, .int .u64 0, .int .u64 0, .int .i64 0]] 8 rfl (World.shaped_of_RefB (by kernel_rfl) (by kernel_rfl)) (by kernel_rfl) (by kernel_rfl) (by kernel_rfl) (Vt.door_met os _)) ?_
  intro W base args ds gs before hval0 hW _ _ hL _
  have hval : ∀ (j : Nat) t v, Tryd.f9.params[j]? = some t → args[j]? = some v → Value.okWide Tryd.prog W .any base t v := hval0
  have hW' := hW
  obtain ⟨p, q, hA0, hV, rfl, hfz, hnd⟩ := hW
  have hA : DataW.TrodAll enc Tryd.prog W 0 (fun _ => true) true Tryd.f9.params.toList args.toList ds p := hA0
  rw [Tryd.params9] at hA hval
  obtain ⟨v0, vs0, d0, ds0, p0, q0, hargs, rfl, rfl, h0, r0⟩ := trodAll_cons hA
  obtain ⟨rfl, rfl, rfl⟩ := trodAll_nil r0
  obtain rfl : args = #[v0] := by cases args; simp_all
  obtain ⟨rfl, rfl⟩ := trodVars_none hV
  have k0 := h0
  have lt0 : ∀ x ∈ p0, x.block < W.heap.size := by obtain ⟨m, hm⟩ := k0; exact DataW.trod_lt m _ _ _ hm
  obtain ⟨fuel0, hf0⟩ := h0
  obtain ⟨x0, hk0, ok0⟩ := (Ba.opens_v5) H enc W 0 _ _ _ _ _ hf0
  obtain rfl : v0 = Ba.agg5 x0 := Ba.agg5_of (hval 0 24 v0 rfl rfl) hk0
  clear hA0 hval0
  refine (walk W (Vt.tab hL) x0 hk0 ok0).mono fun e W' ⟨he, bel⟩ => ?_
  subst he
  exact ⟨_, rfl, _, _, _, [], _, [], hW', trodAll_mk1 (shut_bool Tryd.underlying4 _), (trodAll_cons_mk (Below.trod laidOut (by kernel_rfl) (of_decide_eq_true (by kernel_rfl)) k0 bel lt0) trodAll_mk0), rfl, bel.frame _, fun h => by cases h⟩
theorem over : Rows.valueBackRow.holds Tryd.pinned (OpenSpec.ofChange Rows.valueBackSpec) :=
  OpenClaim.holds_of_wide 9 Tryd.f9 rfl rfl rfl rfl rfl rfl rfl ⟨rfl, rfl, rfl, rfl, rfl⟩ rfl rfl rfl rfl rfl (by kernel_rfl) Tryd.func9 (by kernel_rfl)
    (of_decide_eq_true (by kernel_rfl)) (by unfold Func.isWrapper; first | (rw [if_pos (by decide +kernel)]; kernel_rfl) | (rw [if_neg (by decide +kernel)]; exact ⟨rfl, rfl⟩))
    (fun os started H enc _ => lifted os started H enc)
theorem proved : Rows.ValueBackCardSaid :=
  Claim7.holds_tied_plain_at .later [] [.data, .data, .data, .sentinel, .sentinel] true (true, "c31e0e6559b74baf15febe27140eed1b2e056e84c829090b08d6d10ed788757f") true
    over (fun _ h => by cases h) (by kernel_rfl) (fun _ h => by cases h) valueBack_row_tie rfl ⟨rfl, rfl⟩ (by kernel_rfl) rfl
    (fun f fn hf hfn => by
      obtain rfl : f = 9 := Option.some.inj ((show Tryd.prog.funcNamed "scullion/scullionlaw10.ValueBack" = some 9 by kernel_rfl).symm.trans hf) |>.symm
      obtain rfl : fn = Tryd.f9 := (Option.some.inj (Tryd.func9.symm.trans hfn)).symm
      exact ⟨by kernel_rfl, fun j t ht => by
        rw [Tryd.params9] at ht
        have hm : t ∈ [24] := by simpa using Array.mem_of_getElem? ht
        have hall : ([24].all fun u => !Tryd.prog.wantsStandIn u) = true := by kernel_rfl
        exact (show Tryd.prog.wantsStandIn t = false by simpa using List.all_eq_true.1 hall t hm)⟩)
    (by kernel_rfl)
#print axioms proved
end Go.Proofs.YtacfddlclbelmaaDoor.valueBack
