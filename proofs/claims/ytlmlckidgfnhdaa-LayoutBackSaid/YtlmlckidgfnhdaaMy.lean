/- May a config be? The program's. -/
import Derived.Test.YtlmlckidgfnhdaaRl
import Derived.Deep.DeepMust
namespace Go.Proofs.Ytlmlckidgfnhdaa.My
open Go.RowKit Go.ChangeShapes Go.WideShapes Go.Proofs.YtlmlckidgfnhdaaW.PrintWords Go.Proofs.Ytlmlckidgfnhdaa.Ba Go.Proofs.Ytlmlckidgfnhdaa.Kw Go.Proofs.Ytlmlckidgfnhdaa.Kx Go.Proofs.Ytlmlckidgfnhdaa.Pl Go.Proofs.Ytlmlckidgfnhdaa.Pc
set_option linter.unusedVariables false
set_option linter.unusedSimpArgs false
/-- What a config must be, its words aside. -/
structure Arg (c : Cf) : Prop where
  k0 : 1 ≤ c.ks.length
  k1 : c.ks.length ≤ 16
  k : c.ks.all kM = true
  b0 : 0 ≤ c.b0 ∧ c.b0 ≤ 512
  b1 : 0 ≤ c.b1 ∧ c.b1 ≤ 512
  b2 : 0 ≤ c.b2 ∧ c.b2 ≤ 512
  b3 : 0 ≤ c.b3 ∧ c.b3 ≤ 512
  s : 0 < cnt c
  ro : 1 ≤ c.ro ∧ c.ro ≤ 16
  we : 0 ≤ c.we ∧ c.we ≤ 16
  lg : 40 ≤ c.lg ∧ c.lg ≤ 4096
  m : c.lg % 8 = 0
theorem Arg.fit {c : Cf} (h : Arg c) : Fit c := ⟨h.k1, h.b0, h.b1, h.b2, h.b3, ⟨by have := h.ro; omega, h.ro.2⟩, h.we, ⟨by have := h.lg; omega, h.lg.2⟩⟩
open Classical in
noncomputable def mayE (c : Cf) : Int := if Arg c then (if wordsA c ≤ 65536 then 0 else 9) else 1
theorem mayE_no {c : Cf} (h : ¬ Arg c) : mayE c = 1 := if_neg h
theorem mayE_ok {c : Cf} (h : Arg c) (h1 : wordsA c ≤ 65536) : mayE c = 0 := (if_pos h).trans (if_pos h1)
theorem mayE_many {c : Cf} (h : Arg c) (h1 : ¬ wordsA c ≤ 65536) : mayE c = 9 := (if_pos h).trans (if_neg h1)
theorem mayE_zero {c : Cf} (h : mayE c = 0) : Arg c ∧ wordsA c ≤ 65536 := by
  by_cases ha : Arg c
  · by_cases hw : wordsA c ≤ 65536
    · exact ⟨ha, hw⟩
    · rw [mayE_many ha hw] at h; omega
  · rw [mayE_no ha] at h; omega
set_option maxHeartbeats 16000000 in
set_option maxRecDepth 20000 in
theorem may_any (A : Option Addr) (k : Nat) (ks : List (List Int)) (b0 b1 b2 b3 ro we lg : Int) (w : World) (hk : Ks w A ks) :
    Calls Try.prog 33 #[.agg #[.slice A ks.length k, .int .i64 b0, .int .i64 b1, .int .i64 b2, .int .i64 b3, .int .i64 ro, .int .i64 we, .int .i64 lg]] w (IntPost (mayE ⟨ks, b0, b1, b2, b3, ro, we, lg⟩) w) := by
  have HB0 := Lib.hid ((Below.refl w.heap.size w).alloc (Nat.le_refl _) (.cells #[.slice A ks.length k, .int .i64 b0, .int .i64 b1, .int .i64 b2, .int .i64 b3, .int .i64 ro, .int .i64 we, .int .i64 lg] 25))
  have HX0 := Lib.hid (heap_alloc_new w (.cells #[.slice A ks.length k, .int .i64 b0, .int .i64 b1, .int .i64 b2, .int .i64 b3, .int .i64 ro, .int .i64 we, .int .i64 lg] 25))
  have HNO : Hid (¬ Arg ⟨ks, b0, b1, b2, b3, ro, we, lg⟩ → mayE ⟨ks, b0, b1, b2, b3, ro, we, lg⟩ = 1) := Lib.hid mayE_no
  have HOK : Hid (Arg ⟨ks, b0, b1, b2, b3, ro, we, lg⟩ → wordsA ⟨ks, b0, b1, b2, b3, ro, we, lg⟩ ≤ 65536 → mayE ⟨ks, b0, b1, b2, b3, ro, we, lg⟩ = 0) := Lib.hid mayE_ok
  have HMA : Hid (Arg ⟨ks, b0, b1, b2, b3, ro, we, lg⟩ → ¬ wordsA ⟨ks, b0, b1, b2, b3, ro, we, lg⟩ ≤ 65536 → mayE ⟨ks, b0, b1, b2, b3, ro, we, lg⟩ = 9) := Lib.hid mayE_many
  obtain ⟨i0, i1, i2, i3⟩ := idx4 b0 b1 b2 b3
  by_cases hz : ks.length = 0
  · have HE := Lib.hid (HNO.out (fun h => by have := h.k0; dsimp only at this; omega))
    rw [hz] at HB0 HX0 ⊢
    obtain ⟨p0, p1, p2, p3, p4, p5, p6, p7⟩ := cells8 HX0.out
    go_enter Try.func33, Try.ntmps33
    go_wp2
    go_ret
    rw [HE.out]
    exact ⟨rfl, HB0.out⟩
  have bz : ((ks.length : Int) == 0) = false := beq_eq_false_iff_ne.2 (by omega)
  by_cases h16 : 16 < ks.length
  · have HE := Lib.hid (HNO.out (fun h => by have := h.k1; dsimp only at this; omega))
    obtain ⟨p0, p1, p2, p3, p4, p5, p6, p7⟩ := cells8 HX0.out
    go_enter Try.func33, Try.ntmps33
    go_wp2
    go_ret
    rw [HE.out]
    exact ⟨rfl, HB0.out⟩
  have HC := Lib.hid (contains_any A k ks _ (hk.old HB0.out.block) (by omega))
  obtain ⟨p0, p1, p2, p3, p4, p5, p6, p7⟩ := cells8 HX0.out
  clear hk
  cases em : ks.all kM
  · have HE := Lib.hid (HNO.out (fun h => by have := h.k; dsimp only at this; rw [em] at this; cases this))
    rw [em] at HC
    clear em
    go_enter Try.func33, Try.ntmps33
    go_wp2_with fail
    refine HC.out.mono ?_
    rintro e w1 ⟨rfl, hb1⟩
    have HB1 := Lib.hid (HB0.out.trans (hb1.mono HB0.out.size))
    clear hb1
    go_wp2
    go_ret
    rw [HE.out]
    exact ⟨rfl, HB1.out⟩
  have HEM := Lib.hid em
  rw [em] at HC
  clear em
  go_enter Try.func33, Try.ntmps33
  go_wp2_with fail
  refine HC.out.mono ?_
  rintro e w1 ⟨rfl, hb1⟩
  have HB1 := Lib.hid (HB0.out.trans (hb1.mono HB0.out.size))
  have HX1 := Lib.hid (blk_below HX0.out hb1)
  clear hb1 p0 p1 p2 p3 p4 p5 p6 p7
  obtain ⟨p0, p1, p2, p3, p4, p5, p6, p7⟩ := cells8 HX1.out
  go_wp2
  go_loop [3, 23] (fun s i => (i = .int .i64 0 ∧ s = .bool (decide (0 < (0 : Int)))) ∨ (i = .int .i64 1 ∧ s = .bool (decide (0 < b0)) ∧ (0 ≤ b0 ∧ b0 ≤ 512)) ∨ (i = .int .i64 2 ∧ s = .bool (decide (0 < (b0 + b1))) ∧ (0 ≤ b0 ∧ b0 ≤ 512) ∧ (0 ≤ b1 ∧ b1 ≤ 512)) ∨ (i = .int .i64 3 ∧ s = .bool (decide (0 < (b0 + b1 + b2))) ∧ (0 ≤ b0 ∧ b0 ≤ 512) ∧ (0 ≤ b1 ∧ b1 ≤ 512) ∧ (0 ≤ b2 ∧ b2 ≤ 512)) ∨ (i = .int .i64 4 ∧ s = .bool (decide (0 < (b0 + b1 + b2 + b3))) ∧ (0 ≤ b0 ∧ b0 ≤ 512) ∧ (0 ≤ b1 ∧ b1 ≤ 512) ∧ (0 ≤ b2 ∧ b2 ≤ 512) ∧ (0 ≤ b3 ∧ b3 ≤ 512))) (fun _ i => 4 - (intOf i).toNat)
  case atStart => exact .inl ⟨rfl, rfl⟩
  case round =>
    rcases hrel with ⟨rfl, rfl⟩ | ⟨rfl, rfl, y0⟩ | ⟨rfl, rfl, y0, y1⟩ | ⟨rfl, rfl, y0, y1, y2⟩ | ⟨rfl, rfl, y0, y1, y2, y3⟩
    · have HW := Lib.hid (within_any b0 512 w1)
      by_cases hr : 0 ≤ b0 ∧ b0 ≤ 512
      · rw [decide_eq_true hr.1, decide_eq_true hr.2] at HW
        have hW : Calls Try.prog 49 #[.int .i64 b0, .int .i64 512] w1 fun e w' => e = .returned (.bool true) ∧ w1 = w' := HW.out
        have HW := Lib.hid hW
        clear hW
        by_cases hs : 0 < (0 : Int)
        · have ds : decide (0 < (0 : Int)) = true := decide_eq_true hs
          rw [ds]
          go_wp2_with fail
          refine HW.out.mono ?_
          rintro e w2 ⟨rfl, rfl⟩
          go_wp2
          go_round
          case rel => exact .inr (.inl ⟨rfl, by first | exact congrArg Value.bool (decide_eq_true (by omega)).symm | exact congrArg Value.bool (decide_eq_false (by omega)).symm | exact congrArg Value.bool (decide_eq_decide.2 (by omega)), hr⟩)
          case measure => simp [intOf]
        · have ds : decide (0 < (0 : Int)) = false := decide_eq_false hs
          rw [ds]
          go_wp2_with fail
          refine HW.out.mono ?_
          rintro e w2 ⟨rfl, rfl⟩
          go_wp2
          go_round
          case rel => exact .inr (.inl ⟨rfl, by first | exact congrArg Value.bool (decide_eq_true (by omega)).symm | exact congrArg Value.bool (decide_eq_false (by omega)).symm | exact congrArg Value.bool (decide_eq_decide.2 (by omega)), hr⟩)
          case measure => simp [intOf]
      · have hW : Calls Try.prog 49 #[.int .i64 b0, .int .i64 512] w1 fun e w' => e = .returned (.bool false) ∧ w1 = w' := by
          have h := HW.out
          rw [show (decide (0 ≤ b0) && decide (b0 ≤ 512)) = false by rw [← Bool.decide_and]; exact decide_eq_false hr] at h
          exact h
        have HW := Lib.hid hW
        have HE := Lib.hid (HNO.out (fun h => hr h.b0))
        clear hW hr
        go_wp2_with fail
        refine HW.out.mono ?_
        rintro e w2 ⟨rfl, rfl⟩
        go_wp2
        go_ret
        rw [HE.out]
        exact ⟨rfl, HB1.out⟩
    · have HW := Lib.hid (within_any b1 512 w1)
      by_cases hr : 0 ≤ b1 ∧ b1 ≤ 512
      · rw [decide_eq_true hr.1, decide_eq_true hr.2] at HW
        have hW : Calls Try.prog 49 #[.int .i64 b1, .int .i64 512] w1 fun e w' => e = .returned (.bool true) ∧ w1 = w' := HW.out
        have HW := Lib.hid hW
        clear hW
        by_cases hs : 0 < b0
        · have ds : decide (0 < b0) = true := decide_eq_true hs
          rw [ds]
          go_wp2_with fail
          refine HW.out.mono ?_
          rintro e w2 ⟨rfl, rfl⟩
          go_wp2
          go_round
          case rel => exact .inr (.inr (.inl ⟨rfl, by first | exact congrArg Value.bool (decide_eq_true (by omega)).symm | exact congrArg Value.bool (decide_eq_false (by omega)).symm | exact congrArg Value.bool (decide_eq_decide.2 (by omega)), y0, hr⟩))
          case measure => simp [intOf]
        · have ds : decide (0 < b0) = false := decide_eq_false hs
          rw [ds]
          go_wp2_with fail
          refine HW.out.mono ?_
          rintro e w2 ⟨rfl, rfl⟩
          go_wp2
          go_round
          case rel => exact .inr (.inr (.inl ⟨rfl, by first | exact congrArg Value.bool (decide_eq_true (by omega)).symm | exact congrArg Value.bool (decide_eq_false (by omega)).symm | exact congrArg Value.bool (decide_eq_decide.2 (by omega)), y0, hr⟩))
          case measure => simp [intOf]
      · have hW : Calls Try.prog 49 #[.int .i64 b1, .int .i64 512] w1 fun e w' => e = .returned (.bool false) ∧ w1 = w' := by
          have h := HW.out
          rw [show (decide (0 ≤ b1) && decide (b1 ≤ 512)) = false by rw [← Bool.decide_and]; exact decide_eq_false hr] at h
          exact h
        have HW := Lib.hid hW
        have HE := Lib.hid (HNO.out (fun h => hr h.b1))
        clear hW hr
        go_wp2_with fail
        refine HW.out.mono ?_
        rintro e w2 ⟨rfl, rfl⟩
        go_wp2
        go_ret
        rw [HE.out]
        exact ⟨rfl, HB1.out⟩
    · have HW := Lib.hid (within_any b2 512 w1)
      by_cases hr : 0 ≤ b2 ∧ b2 ≤ 512
      · rw [decide_eq_true hr.1, decide_eq_true hr.2] at HW
        have hW : Calls Try.prog 49 #[.int .i64 b2, .int .i64 512] w1 fun e w' => e = .returned (.bool true) ∧ w1 = w' := HW.out
        have HW := Lib.hid hW
        clear hW
        by_cases hs : 0 < (b0 + b1)
        · have ds : decide (0 < (b0 + b1)) = true := decide_eq_true hs
          rw [ds]
          go_wp2_with fail
          refine HW.out.mono ?_
          rintro e w2 ⟨rfl, rfl⟩
          go_wp2
          go_round
          case rel => exact .inr (.inr (.inr (.inl ⟨rfl, by first | exact congrArg Value.bool (decide_eq_true (by omega)).symm | exact congrArg Value.bool (decide_eq_false (by omega)).symm | exact congrArg Value.bool (decide_eq_decide.2 (by omega)), y0, y1, hr⟩)))
          case measure => simp [intOf]
        · have ds : decide (0 < (b0 + b1)) = false := decide_eq_false hs
          rw [ds]
          go_wp2_with fail
          refine HW.out.mono ?_
          rintro e w2 ⟨rfl, rfl⟩
          go_wp2
          go_round
          case rel => exact .inr (.inr (.inr (.inl ⟨rfl, by first | exact congrArg Value.bool (decide_eq_true (by omega)).symm | exact congrArg Value.bool (decide_eq_false (by omega)).symm | exact congrArg Value.bool (decide_eq_decide.2 (by omega)), y0, y1, hr⟩)))
          case measure => simp [intOf]
      · have hW : Calls Try.prog 49 #[.int .i64 b2, .int .i64 512] w1 fun e w' => e = .returned (.bool false) ∧ w1 = w' := by
          have h := HW.out
          rw [show (decide (0 ≤ b2) && decide (b2 ≤ 512)) = false by rw [← Bool.decide_and]; exact decide_eq_false hr] at h
          exact h
        have HW := Lib.hid hW
        have HE := Lib.hid (HNO.out (fun h => hr h.b2))
        clear hW hr
        go_wp2_with fail
        refine HW.out.mono ?_
        rintro e w2 ⟨rfl, rfl⟩
        go_wp2
        go_ret
        rw [HE.out]
        exact ⟨rfl, HB1.out⟩
    · have HW := Lib.hid (within_any b3 512 w1)
      by_cases hr : 0 ≤ b3 ∧ b3 ≤ 512
      · rw [decide_eq_true hr.1, decide_eq_true hr.2] at HW
        have hW : Calls Try.prog 49 #[.int .i64 b3, .int .i64 512] w1 fun e w' => e = .returned (.bool true) ∧ w1 = w' := HW.out
        have HW := Lib.hid hW
        clear hW
        by_cases hs : 0 < (b0 + b1 + b2)
        · have ds : decide (0 < (b0 + b1 + b2)) = true := decide_eq_true hs
          rw [ds]
          go_wp2_with fail
          refine HW.out.mono ?_
          rintro e w2 ⟨rfl, rfl⟩
          go_wp2
          go_round
          case rel => exact .inr (.inr (.inr (.inr ⟨rfl, by first | exact congrArg Value.bool (decide_eq_true (by omega)).symm | exact congrArg Value.bool (decide_eq_false (by omega)).symm | exact congrArg Value.bool (decide_eq_decide.2 (by omega)), y0, y1, y2, hr⟩)))
          case measure => simp [intOf]
        · have ds : decide (0 < (b0 + b1 + b2)) = false := decide_eq_false hs
          rw [ds]
          go_wp2_with fail
          refine HW.out.mono ?_
          rintro e w2 ⟨rfl, rfl⟩
          go_wp2
          go_round
          case rel => exact .inr (.inr (.inr (.inr ⟨rfl, by first | exact congrArg Value.bool (decide_eq_true (by omega)).symm | exact congrArg Value.bool (decide_eq_false (by omega)).symm | exact congrArg Value.bool (decide_eq_decide.2 (by omega)), y0, y1, y2, hr⟩)))
          case measure => simp [intOf]
      · have hW : Calls Try.prog 49 #[.int .i64 b3, .int .i64 512] w1 fun e w' => e = .returned (.bool false) ∧ w1 = w' := by
          have h := HW.out
          rw [show (decide (0 ≤ b3) && decide (b3 ≤ 512)) = false by rw [← Bool.decide_and]; exact decide_eq_false hr] at h
          exact h
        have HW := Lib.hid hW
        have HE := Lib.hid (HNO.out (fun h => hr h.b3))
        clear hW hr
        go_wp2_with fail
        refine HW.out.mono ?_
        rintro e w2 ⟨rfl, rfl⟩
        go_wp2
        go_ret
        rw [HE.out]
        exact ⟨rfl, HB1.out⟩
    · by_cases hs : 0 < (b0 + b1 + b2 + b3)
      · have ds : decide (0 < (b0 + b1 + b2 + b3)) = true := decide_eq_true hs
        rw [ds]
        clear ds
        by_cases hro : 0 ≤ ro ∧ ro ≤ 16
        · have HW1 := Lib.hid (fun (W : World) => (show Calls Try.prog 49 #[.int .i64 ro, .int .i64 16] W (fun e w' => e = .returned (.bool true) ∧ W = w') by have h := within_any ro 16 W; rw [decide_eq_true hro.1, decide_eq_true hro.2] at h; exact h))
          by_cases hwe : 0 ≤ we ∧ we ≤ 16
          · have HW2 := Lib.hid (fun (W : World) => (show Calls Try.prog 49 #[.int .i64 we, .int .i64 16] W (fun e w' => e = .returned (.bool true) ∧ W = w') by have h := within_any we 16 W; rw [decide_eq_true hwe.1, decide_eq_true hwe.2] at h; exact h))
            by_cases hr0 : ro = 0
            · have HE := Lib.hid (HNO.out (fun h => by have := h.ro.1; dsimp only at this; omega))
              subst hr0
              go_wp2_with fail
              refine (HW1.out _).mono ?_
              rintro e w2 ⟨rfl, rfl⟩
              go_wp2_with fail
              refine (HW2.out _).mono ?_
              rintro e w2 ⟨rfl, rfl⟩
              go_wp2
              go_ret
              rw [HE.out]
              exact ⟨rfl, HB1.out⟩
            have br : (ro == 0) = false := beq_eq_false_iff_ne.2 hr0
            have HB1d := Lib.hid (HB1.out.drew)
            by_cases hl1 : lg < 40
            · have HE := Lib.hid (HNO.out (fun h => by have := h.lg.1; dsimp only at this; omega))
              have d1 : decide (lg < 40) = true := decide_eq_true hl1
              go_wp2_with fail
              refine (HW1.out _).mono ?_
              rintro e w2 ⟨rfl, rfl⟩
              go_wp2_with fail
              refine (HW2.out _).mono ?_
              rintro e w2 ⟨rfl, rfl⟩
              go_wp2
              first | (go_region_law (first | (go_simp; go_at_call 50; refine (need_any _).mono ?_; rintro e w6 ⟨rfl, rfl⟩) | fail)) | fail
              all_goals
                go_wp2
                go_ret
                rw [HE.out]
                exact ⟨rfl, HB1d.out⟩
            have d1 : decide (lg < 40) = false := decide_eq_false hl1
            by_cases hl2 : 4096 < lg
            · have HE := Lib.hid (HNO.out (fun h => by have := h.lg.2; dsimp only at this; omega))
              have d2 : decide (4096 < lg) = true := decide_eq_true hl2
              go_wp2_with fail
              refine (HW1.out _).mono ?_
              rintro e w2 ⟨rfl, rfl⟩
              go_wp2_with fail
              refine (HW2.out _).mono ?_
              rintro e w2 ⟨rfl, rfl⟩
              go_wp2
              first | (go_region_law (first | (go_simp; go_at_call 50; refine (need_any _).mono ?_; rintro e w6 ⟨rfl, rfl⟩) | fail)) | fail
              all_goals
                go_wp2
                go_ret
                rw [HE.out]
                exact ⟨rfl, HB1d.out⟩
            have d2 : decide (4096 < lg) = false := decide_eq_false hl2
            have hm : lg.tmod 8 = lg % 8 := Int.tmod_eq_emod_of_nonneg (by omega)
            by_cases hl3 : lg % 8 = 0
            · rw [hl3] at hm
              have HA : Arg ⟨ks, b0, b1, b2, b3, ro, we, lg⟩ := ⟨by dsimp only; omega, by dsimp only; omega, HEM.out, y0, y1, y2, y3, hs, ⟨by dsimp only; omega, hro.2⟩, hwe, ⟨by dsimp only; omega, by dsimp only; omega⟩, hl3⟩
              have HPL := Lib.hid (place_any A k ks b0 b1 b2 b3 ro we lg w1.drew HA.fit)
              by_cases hw : wordsA ⟨ks, b0, b1, b2, b3, ro, we, lg⟩ ≤ 65536
              · have HE := Lib.hid (HOK.out HA (by omega))
                obtain ⟨v, hv⟩ : ∃ v, wordsA ⟨ks, b0, b1, b2, b3, ro, we, lg⟩ = v := ⟨_, rfl⟩
                rw [hv] at HPL hw
                clear hv HA
                go_wp2_with fail
                refine (HW1.out _).mono ?_
                rintro e w2 ⟨rfl, rfl⟩
                go_wp2_with fail
                refine (HW2.out _).mono ?_
                rintro e w2 ⟨rfl, rfl⟩
                go_wp2
                first | (go_region_law (first | (go_simp; go_at_call 50; refine (need_any _).mono ?_; rintro e w6 ⟨rfl, rfl⟩) | fail)) | fail
                all_goals
                  go_wp2_with fail
                  refine HPL.out.mono ?_
                  rintro e w3 ⟨rfl, hb3, hx3⟩
                  have c12 : w3.cell? ⟨w1.heap.size + 1, 12, none⟩ = some (.int .i64 v) := (blk_cell hx3 12).trans rfl
                  have HB3 := Lib.hid (HB1d.out.trans (hb3.mono HB1d.out.size))
                  clear hb3 hx3
                  go_wp2
                  go_ret
                  rw [HE.out]
                  exact ⟨rfl, HB3.out⟩
              · have HE := Lib.hid (HMA.out HA (by omega))
                obtain ⟨v, hv⟩ : ∃ v, wordsA ⟨ks, b0, b1, b2, b3, ro, we, lg⟩ = v := ⟨_, rfl⟩
                rw [hv] at HPL hw
                clear hv HA
                go_wp2_with fail
                refine (HW1.out _).mono ?_
                rintro e w2 ⟨rfl, rfl⟩
                go_wp2_with fail
                refine (HW2.out _).mono ?_
                rintro e w2 ⟨rfl, rfl⟩
                go_wp2
                first | (go_region_law (first | (go_simp; go_at_call 50; refine (need_any _).mono ?_; rintro e w6 ⟨rfl, rfl⟩) | fail)) | fail
                all_goals
                  go_wp2_with fail
                  refine HPL.out.mono ?_
                  rintro e w3 ⟨rfl, hb3, hx3⟩
                  have c12 : w3.cell? ⟨w1.heap.size + 1, 12, none⟩ = some (.int .i64 v) := (blk_cell hx3 12).trans rfl
                  have HB3 := Lib.hid (HB1d.out.trans (hb3.mono HB1d.out.size))
                  clear hb3 hx3
                  go_wp2
                  go_ret
                  rw [HE.out]
                  exact ⟨rfl, HB3.out⟩
            · have HE := Lib.hid (HNO.out (fun h => hl3 h.m))
              obtain ⟨m, hm'⟩ : ∃ m, lg % 8 = m := ⟨_, rfl⟩
              have hmb : 0 ≤ m ∧ m < 8 := by omega
              rw [hm'] at hm hl3
              have bm : (m == 0) = false := beq_eq_false_iff_ne.2 hl3
              have bm2 : (m != 0) = true := bne_iff_ne.2 hl3
              clear hm' hl3
              go_wp2_with fail
              refine (HW1.out _).mono ?_
              rintro e w2 ⟨rfl, rfl⟩
              go_wp2_with fail
              refine (HW2.out _).mono ?_
              rintro e w2 ⟨rfl, rfl⟩
              go_wp2
              first | (go_region_law (first | (go_simp; go_at_call 50; refine (need_any _).mono ?_; rintro e w6 ⟨rfl, rfl⟩) | fail)) | fail
              all_goals
                go_wp2
                go_ret
                rw [HE.out]
                exact ⟨rfl, HB1d.out⟩
          · have HW2 := Lib.hid (fun (W : World) => (show Calls Try.prog 49 #[.int .i64 we, .int .i64 16] W (fun e w' => e = .returned (.bool false) ∧ W = w') by have h := within_any we 16 W; rw [show (decide (0 ≤ we) && decide (we ≤ 16)) = false by rw [← Bool.decide_and]; exact decide_eq_false hwe] at h; exact h))
            have HE := Lib.hid (HNO.out (fun h => hwe h.we))
            go_wp2_with fail
            refine (HW1.out _).mono ?_
            rintro e w2 ⟨rfl, rfl⟩
            go_wp2_with fail
            refine (HW2.out _).mono ?_
            rintro e w2 ⟨rfl, rfl⟩
            go_wp2
            go_ret
            rw [HE.out]
            exact ⟨rfl, HB1.out⟩
        · have HW1 := Lib.hid (fun (W : World) => (show Calls Try.prog 49 #[.int .i64 ro, .int .i64 16] W (fun e w' => e = .returned (.bool false) ∧ W = w') by have h := within_any ro 16 W; rw [show (decide (0 ≤ ro) && decide (ro ≤ 16)) = false by rw [← Bool.decide_and]; exact decide_eq_false hro] at h; exact h))
          have HE := Lib.hid (HNO.out (fun h => hro ⟨by have := h.ro.1; dsimp only at this; omega, h.ro.2⟩))
          go_wp2_with fail
          refine (HW1.out _).mono ?_
          rintro e w2 ⟨rfl, rfl⟩
          go_wp2
          go_ret
          rw [HE.out]
          exact ⟨rfl, HB1.out⟩
      · have ds : decide (0 < (b0 + b1 + b2 + b3)) = false := decide_eq_false hs
        rw [ds]
        clear ds
        have HE := Lib.hid (HNO.out (fun h => hs h.s))
        go_wp2
        go_ret
        rw [HE.out]
        exact ⟨rfl, HB1.out⟩
end Go.Proofs.Ytlmlckidgfnhdaa.My
