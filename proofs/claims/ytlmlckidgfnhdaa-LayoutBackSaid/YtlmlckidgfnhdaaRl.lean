/- The reference's Lay. -/
import Derived.Test.YtlmlckidgfnhdaaPc
namespace Go.Proofs.Ytlmlckidgfnhdaa.Rl
open Go.RowKit Go.ChangeShapes Go.WideShapes Go.Proofs.YtlmlckidgfnhdaaW.PrintWords Go.Proofs.Ytlmlckidgfnhdaa.Ba Go.Proofs.Ytlmlckidgfnhdaa.Kw Go.Proofs.Ytlmlckidgfnhdaa.Pl Go.Proofs.Ytlmlckidgfnhdaa.Pc
set_option linter.unusedVariables false
set_option linter.unusedSimpArgs false
theorem new3 (w : World) (o : Obj) (cs : Array Value) {t : Nat} : ((w.alloc o).alloc (.cells cs t)).drew.drew.drew.heap[w.heap.size + 1]? = some (.cells cs t (0, 0)) := by
  show ((w.alloc o).alloc (.cells cs t)).heap[w.heap.size + 1]? = _
  rw [← size_al w o]
  exact heap_alloc_new _ _
set_option maxHeartbeats 16000000 in
set_option maxRecDepth 20000 in
theorem lay_any (A : Option Addr) (k : Nat) (ks : List (List Int)) (b0 b1 b2 b3 ro we lg : Int) (w : World) (hf : Fit ⟨ks, b0, b1, b2, b3, ro, we, lg⟩) :
    Calls Try.prog 32 #[.agg #[.slice A ks.length k, .int .i64 b0, .int .i64 b1, .int .i64 b2, .int .i64 b3, .int .i64 ro, .int .i64 we, .int .i64 lg]] w fun e w' => e = .returned (.pointer (some ⟨w.heap.size + 1, 0, none⟩)) ∧ Below w.heap.size w w' ∧
      w'.cell? ⟨w.heap.size + 1, 19, none⟩ = some (.int .i64 (wordsA ⟨ks, b0, b1, b2, b3, ro, we, lg⟩)) := by
  obtain ⟨fk, ⟨f0, g0⟩, ⟨f1, g1⟩, ⟨f2, g2⟩, ⟨f3, g3⟩, ⟨f5, g5⟩, ⟨f6, g6⟩, ⟨f7, g7⟩⟩ := hf
  dsimp only at fk f0 g0 f1 g1 f2 g2 f3 g3 f5 g5 f6 g6 f7 g7
  have hz : ∀ w, (zeroValue 58).run Try.prog w = .ok (.agg #[.slice none 0 0, .int .i64 0, .int .i64 0, .int .i64 0, .int .i64 0, .int .i64 0, .int .i64 0, .int .i64 0, .int .i64 0, .int .i64 0, .int .i64 0, .int .i64 0, .int .i64 0, .int .i64 0, .int .i64 0, .int .i64 0, .int .i64 0, .int .i64 0, .int .i64 0, .int .i64 0]) w := fun w => by kernel_rfl
  have hx := heap_alloc_new w (.cells #[.slice A ks.length k, .int .i64 b0, .int .i64 b1, .int .i64 b2, .int .i64 b3, .int .i64 ro, .int .i64 we, .int .i64 lg] 25)
  obtain ⟨p0, p1, p2, p3, p4, p5, p6, p7⟩ := cells8 hx
  clear hx
  obtain ⟨i0, i1, i2, i3⟩ := idx4 b0 b1 b2 b3
  obtain ⟨r1, hr1⟩ : ∃ r, ln (9 + (ks.length : Int)) = r := ⟨_, rfl⟩
  have hb1 := ln_b (x := 9 + (ks.length : Int)) (by omega)
  have HL1 := Lib.hid (fun W => rline_any (9 + (ks.length : Int)) W (by omega) (by omega))
  rw [hr1] at hb1 HL1
  obtain ⟨r2, hr2⟩ : ∃ r, ln (r1 + ro + we) = r := ⟨_, rfl⟩
  have hb2 := ln_b (x := r1 + ro + we) (by omega)
  have HL2 := Lib.hid (fun W => rline_any (r1 + ro + we) W (by omega) (by omega))
  rw [hr2] at hb2 HL2
  have t1 : (b0 + b1 + b2 + b3 + 63).tdiv 64 = (b0 + b1 + b2 + b3 + 63) / 64 := by rw [Int.tdiv_eq_ediv_of_nonneg (by omega)]
  have hq : 0 ≤ (b0 + b1 + b2 + b3 + 63) / 64 ∧ (b0 + b1 + b2 + b3 + 63) / 64 ≤ 40 := by omega
  obtain ⟨q, hq'⟩ : ∃ q, (b0 + b1 + b2 + b3 + 63) / 64 = q := ⟨_, rfl⟩
  rw [hq'] at t1 hq
  obtain ⟨r3, hr3⟩ : ∃ r, ln (r2 + q) = r := ⟨_, rfl⟩
  have hb3 := ln_b (x := r2 + q) (by omega)
  have HL3 := Lib.hid (fun W => rline_any (r2 + q) W (by omega) (by omega))
  rw [hr3] at hb3 HL3
  obtain ⟨r5, hr5⟩ : ∃ r, ln (r3 + lg + b0 * 2 + b1 * 4 + b2 * 8 + b3 * 16) = r := ⟨_, rfl⟩
  have hb5 := ln_b (x := r3 + lg + b0 * 2 + b1 * 4 + b2 * 8 + b3 * 16) (by omega)
  have HL5 := Lib.hid (fun W => rline_any (r3 + lg + b0 * 2 + b1 * 4 + b2 * 8 + b3 * 16) W (by omega) (by omega))
  rw [hr5] at hb5 HL5
  have E1 : Hid (rootsA ⟨ks, b0, b1, b2, b3, ro, we, lg⟩ = r1) := Lib.hid hr1
  have E2 : Hid (bitsA ⟨ks, b0, b1, b2, b3, ro, we, lg⟩ = r2) := Lib.hid (by unfold bitsA; rw [E1.out]; exact hr2)
  have E3 : Hid (logA ⟨ks, b0, b1, b2, b3, ro, we, lg⟩ = r3) := Lib.hid (by unfold logA cnt; rw [E2.out]; dsimp only; rw [hq']; exact hr3)
  have E4 : Hid (blocksA ⟨ks, b0, b1, b2, b3, ro, we, lg⟩ = r3 + lg) := Lib.hid (by unfold blocksA; rw [E3.out])
  have E5 : Hid (wordsA ⟨ks, b0, b1, b2, b3, ro, we, lg⟩ = r5) := Lib.hid (by unfold wordsA allW; rw [E4.out, ← hr5]; dsimp only; exact congrArg ln (by omega))
  clear hr1 hr2 hr3 hr5 hq'
  have a1 : IntKind.i64.wrap (r1 + ro) = r1 + ro := Go.IntWalk.i64_in _ (by omega)
  have a2 : IntKind.i64.wrap (r1 + ro + we) = r1 + ro + we := Go.IntWalk.i64_in _ (by omega)
  go_enter Try.func32, Try.ntmps32
  go_wp2_with fail
  refine (HL1.out _).mono ?_
  rintro e w1 ⟨rfl, rfl⟩
  go_wp2_with fail
  go_region
  all_goals
    go_wp2_with fail
    go_region_law (first | (go_simp; go_at_call 44; refine (HL2.out _).mono ?_; rintro e w6 ⟨rfl, rfl⟩))
  all_goals
    go_wp2
    go_loopw [4, 44] (fun n i wr => (i = .int .i64 0 ∧ n = .int .i64 (0) ∧ wr = ((w.alloc (.cells #[.slice A ks.length k, .int .i64 b0, .int .i64 b1, .int .i64 b2, .int .i64 b3, .int .i64 ro, .int .i64 we, .int .i64 lg] 25)).alloc (.cells #[.slice A ks.length k, .int .i64 b0, .int .i64 b1, .int .i64 b2, .int .i64 b3, .int .i64 ro, .int .i64 we, .int .i64 lg, .int .i64 r1, .int .i64 (r1 + ro), .int .i64 r2, .int .i64 0, .int .i64 0, .int .i64 0, .int .i64 0, .int .i64 0, .int .i64 0, .int .i64 0, .int .i64 0, .int .i64 0] 58)).drew.drew) ∨ (i = .int .i64 1 ∧ n = .int .i64 (b0) ∧ wr = ((w.alloc (.cells #[.slice A ks.length k, .int .i64 b0, .int .i64 b1, .int .i64 b2, .int .i64 b3, .int .i64 ro, .int .i64 we, .int .i64 lg] 25)).alloc (.cells #[.slice A ks.length k, .int .i64 b0, .int .i64 b1, .int .i64 b2, .int .i64 b3, .int .i64 ro, .int .i64 we, .int .i64 lg, .int .i64 r1, .int .i64 (r1 + ro), .int .i64 r2, .int .i64 0, .int .i64 0, .int .i64 0, .int .i64 0, .int .i64 0, .int .i64 0, .int .i64 0, .int .i64 0, .int .i64 0] 58)).drew.drew) ∨ (i = .int .i64 2 ∧ n = .int .i64 (b0 + b1) ∧ wr = ((w.alloc (.cells #[.slice A ks.length k, .int .i64 b0, .int .i64 b1, .int .i64 b2, .int .i64 b3, .int .i64 ro, .int .i64 we, .int .i64 lg] 25)).alloc (.cells #[.slice A ks.length k, .int .i64 b0, .int .i64 b1, .int .i64 b2, .int .i64 b3, .int .i64 ro, .int .i64 we, .int .i64 lg, .int .i64 r1, .int .i64 (r1 + ro), .int .i64 r2, .int .i64 0, .int .i64 0, .int .i64 0, .int .i64 0, .int .i64 b0, .int .i64 0, .int .i64 0, .int .i64 0, .int .i64 0] 58)).drew.drew) ∨ (i = .int .i64 3 ∧ n = .int .i64 (b0 + b1 + b2) ∧ wr = ((w.alloc (.cells #[.slice A ks.length k, .int .i64 b0, .int .i64 b1, .int .i64 b2, .int .i64 b3, .int .i64 ro, .int .i64 we, .int .i64 lg] 25)).alloc (.cells #[.slice A ks.length k, .int .i64 b0, .int .i64 b1, .int .i64 b2, .int .i64 b3, .int .i64 ro, .int .i64 we, .int .i64 lg, .int .i64 r1, .int .i64 (r1 + ro), .int .i64 r2, .int .i64 0, .int .i64 0, .int .i64 0, .int .i64 0, .int .i64 b0, .int .i64 (b0 + b1), .int .i64 0, .int .i64 0, .int .i64 0] 58)).drew.drew) ∨ (i = .int .i64 4 ∧ n = .int .i64 (b0 + b1 + b2 + b3) ∧ wr = ((w.alloc (.cells #[.slice A ks.length k, .int .i64 b0, .int .i64 b1, .int .i64 b2, .int .i64 b3, .int .i64 ro, .int .i64 we, .int .i64 lg] 25)).alloc (.cells #[.slice A ks.length k, .int .i64 b0, .int .i64 b1, .int .i64 b2, .int .i64 b3, .int .i64 ro, .int .i64 we, .int .i64 lg, .int .i64 r1, .int .i64 (r1 + ro), .int .i64 r2, .int .i64 0, .int .i64 0, .int .i64 0, .int .i64 0, .int .i64 b0, .int .i64 (b0 + b1), .int .i64 (b0 + b1 + b2), .int .i64 0, .int .i64 0] 58)).drew.drew)) (fun _ i _ => 4 - (intOf i).toNat)
    case atStart => exact .inl ⟨rfl, rfl, rfl⟩
    case round =>
      rcases hrel with ⟨rfl, rfl, rfl⟩ | ⟨rfl, rfl, rfl⟩ | ⟨rfl, rfl, rfl⟩ | ⟨rfl, rfl, rfl⟩ | ⟨rfl, rfl, rfl⟩
      · go_wp2
        go_roundw
        case rel => exact .inr (.inl ⟨rfl, by first | rfl | go_num | (simp only [Int.zero_add]), by first | rfl | trivial⟩)
        case measure => simp [intOf]
      · go_wp2
        go_roundw
        case rel => exact .inr (.inr (.inl ⟨rfl, by first | rfl | go_num | (simp only [Int.zero_add]), by first | rfl | trivial⟩))
        case measure => simp [intOf]
      · go_wp2
        go_roundw
        case rel => exact .inr (.inr (.inr (.inl ⟨rfl, by first | rfl | go_num | (simp only [Int.zero_add]), by first | rfl | trivial⟩)))
        case measure => simp [intOf]
      · go_wp2
        go_roundw
        case rel => exact .inr (.inr (.inr (.inr ⟨rfl, by first | rfl | go_num | (simp only [Int.zero_add]), by first | rfl | trivial⟩)))
        case measure => simp [intOf]
      · go_wp2_with fail
        refine (HL3.out _).mono ?_
        rintro e w1 ⟨rfl, rfl⟩
        go_wp2_with fail
        go_region
        all_goals
          go_wp2
          go_loop [7, 98] (fun n i => (i = .int .i64 0 ∧ n = .int .i64 (r3 + lg)) ∨ (i = .int .i64 1 ∧ n = .int .i64 (r3 + lg + b0 * 2)) ∨ (i = .int .i64 2 ∧ n = .int .i64 (r3 + lg + b0 * 2 + b1 * 4)) ∨ (i = .int .i64 3 ∧ n = .int .i64 (r3 + lg + b0 * 2 + b1 * 4 + b2 * 8)) ∨ (i = .int .i64 4 ∧ n = .int .i64 (r3 + lg + b0 * 2 + b1 * 4 + b2 * 8 + b3 * 16))) (fun _ i => 4 - (intOf i).toNat)
          case atStart => exact .inl ⟨rfl, rfl⟩
          case round =>
            rcases hrel with ⟨rfl, rfl⟩ | ⟨rfl, rfl⟩ | ⟨rfl, rfl⟩ | ⟨rfl, rfl⟩ | ⟨rfl, rfl⟩
            · go_wp2_with fail
              refine (rsize0 _).mono ?_
              rintro e w1 ⟨rfl, rfl⟩
              go_wp2
              go_round
              case rel => exact .inr (.inl ⟨rfl, by first | rfl | go_num | (simp only [Int.zero_add])⟩)
              case measure => simp [intOf]
            · go_wp2_with fail
              refine (rsize1 _).mono ?_
              rintro e w1 ⟨rfl, rfl⟩
              go_wp2
              go_round
              case rel => exact .inr (.inr (.inl ⟨rfl, by first | rfl | go_num | (simp only [Int.zero_add])⟩))
              case measure => simp [intOf]
            · go_wp2_with fail
              refine (rsize2 _).mono ?_
              rintro e w1 ⟨rfl, rfl⟩
              go_wp2
              go_round
              case rel => exact .inr (.inr (.inr (.inl ⟨rfl, by first | rfl | go_num | (simp only [Int.zero_add])⟩)))
              case measure => simp [intOf]
            · go_wp2_with fail
              refine (rsize3 _).mono ?_
              rintro e w1 ⟨rfl, rfl⟩
              go_wp2
              go_round
              case rel => exact .inr (.inr (.inr (.inr ⟨rfl, by first | rfl | go_num | (simp only [Int.zero_add])⟩)))
              case measure => simp [intOf]
            · go_wp2_with fail
              refine (HL5.out _).mono ?_
              rintro e w1 ⟨rfl, rfl⟩
              go_wp2
              go_ret
              rw [E5.out]
              refine ⟨rfl, (((Below.refl _ _).alloc (Nat.le_refl _) _).alloc (by simp) _).drew.drew.drew, ?_⟩
              rw [blk_cell (new3 _ _ _)]
              rfl
end Go.Proofs.Ytlmlckidgfnhdaa.Rl
