/- May a config be? The reference's. -/
import Derived.Test.YtlmlckidgfnhdaaMy
namespace Go.Proofs.Ytlmlckidgfnhdaa.Mr
open Go.RowKit Go.ChangeShapes Go.WideShapes Go.Proofs.YtlmlckidgfnhdaaW.PrintWords Go.Proofs.Ytlmlckidgfnhdaa.Ba Go.Proofs.Ytlmlckidgfnhdaa.Kw Go.Proofs.Ytlmlckidgfnhdaa.Kx Go.Proofs.Ytlmlckidgfnhdaa.Pl Go.Proofs.Ytlmlckidgfnhdaa.Pc Go.Proofs.Ytlmlckidgfnhdaa.My
set_option linter.unusedVariables false
set_option linter.unusedSimpArgs false
set_option maxHeartbeats 16000000 in
set_option maxRecDepth 20000 in
theorem rmay_any (A : Option Addr) (k : Nat) (ks : List (List Int)) (b0 b1 b2 b3 ro we lg : Int) (w : World) (hk : Ks w A ks) :
    Calls Try.prog 9 #[.agg #[.slice A ks.length k, .int .i64 b0, .int .i64 b1, .int .i64 b2, .int .i64 b3, .int .i64 ro, .int .i64 we, .int .i64 lg]] w (IntPost (mayE ⟨ks, b0, b1, b2, b3, ro, we, lg⟩) w) := by
  have HB0 := Lib.hid ((Below.refl w.heap.size w).alloc (Nat.le_refl _) (.cells #[.slice A ks.length k, .int .i64 b0, .int .i64 b1, .int .i64 b2, .int .i64 b3, .int .i64 ro, .int .i64 we, .int .i64 lg] 25))
  have HX0 := Lib.hid (heap_alloc_new w (.cells #[.slice A ks.length k, .int .i64 b0, .int .i64 b1, .int .i64 b2, .int .i64 b3, .int .i64 ro, .int .i64 we, .int .i64 lg] 25))
  have HNO : Hid (¬ Arg ⟨ks, b0, b1, b2, b3, ro, we, lg⟩ → mayE ⟨ks, b0, b1, b2, b3, ro, we, lg⟩ = 1) := Lib.hid mayE_no
  have HOK : Hid (Arg ⟨ks, b0, b1, b2, b3, ro, we, lg⟩ → wordsA ⟨ks, b0, b1, b2, b3, ro, we, lg⟩ ≤ 65536 → mayE ⟨ks, b0, b1, b2, b3, ro, we, lg⟩ = 0) := Lib.hid mayE_ok
  have HMA : Hid (Arg ⟨ks, b0, b1, b2, b3, ro, we, lg⟩ → ¬ wordsA ⟨ks, b0, b1, b2, b3, ro, we, lg⟩ ≤ 65536 → mayE ⟨ks, b0, b1, b2, b3, ro, we, lg⟩ = 9) := Lib.hid mayE_many
  have HKS := Lib.hid (hk.old HB0.out.block)
  obtain ⟨i0, i1, i2, i3⟩ := idx4 b0 b1 b2 b3
  clear hk
  by_cases hz : ks.length < 1
  · have HE := Lib.hid (HNO.out (fun h => by have := h.k0; dsimp only at this; omega))
    obtain ⟨p0, p1, p2, p3, p4, p5, p6, p7⟩ := cells8 HX0.out
    go_enter Try.func9, Try.ntmps9
    go_wp2
    go_ret
    rw [HE.out]
    exact ⟨rfl, HB0.out⟩
  by_cases h16 : 16 < ks.length
  · have HE := Lib.hid (HNO.out (fun h => by have := h.k1; dsimp only at this; omega))
    obtain ⟨p0, p1, p2, p3, p4, p5, p6, p7⟩ := cells8 HX0.out
    go_enter Try.func9, Try.ntmps9
    go_wp2
    go_ret
    rw [HE.out]
    exact ⟨rfl, HB0.out⟩
  obtain ⟨p0, p1, p2, p3, p4, p5, p6, p7⟩ := cells8 HX0.out
  obtain ⟨w0, hw0⟩ : ∃ w0, w.alloc (.cells #[.slice A ks.length k, .int .i64 b0, .int .i64 b1, .int .i64 b2, .int .i64 b3, .int .i64 ro, .int .i64 we, .int .i64 lg] 25) = w0 := ⟨_, rfl⟩
  rw [hw0] at HB0 HX0 HKS p0 p1 p2 p3 p4 p5 p6 p7
  have HW0 := Lib.hid hw0
  have hz54 : ∀ w, (zeroValue 54).run Try.prog w = .ok (.agg #[.slice none 0 0]) w := fun w => by kernel_rfl
  go_enter Try.func9, Try.ntmps9
  go_wp2
  go_loopw [21] (fun i wr => ∃ j : Nat, j ≤ ks.length ∧ i = .int .i64 (j : Int) ∧ (ks.take j).all kM = true ∧ Below w0.heap.size w0 wr) (fun i _ => ks.length - (intOf i).toNat)
  case atStart => exact ⟨0, by omega, rfl, rfl, Below.refl _ _⟩
  case round =>
    obtain ⟨j, hj, rfl, hall, hb⟩ := hrel
    have HAL := Lib.hid hall
    have HB4 := Lib.hid hb
    clear hall p0 p1 p2 p3 p4 p5 p6 p7
    by_cases hlt : j < ks.length
    · obtain ⟨ad, rfl, A1, c1, hc, hl1, hr⟩ := HKS.out.old hb.block j hlt
      have HS := Lib.hid (all_take_snoc (d := ([] : List Int)) HAL.out hlt)
      have HN := Lib.hid (all_no (p := kM) (l := ks) (d := ([] : List Int)) (k := j))
      obtain ⟨f, hf⟩ : ∃ f, ks.getD j [] = f := ⟨_, rfl⟩
      rw [hf] at hc HS HN hr hl1
      have HB5 := Lib.hid (hb.alloc hb.size (.cells #[.slice A1 f.length c1] 54))
      have HK := Lib.hid (rkmay_any A1 c1 f (wr.alloc (.cells #[.slice A1 f.length c1] 54)) (hr.below ((Below.refl _ _).alloc (Nat.le_refl _) _).block))
      clear hb hf hr
      cases em : kM f
      · rw [em] at HK
        have HE := Lib.hid (HNO.out (fun h => by have := h.k; dsimp only at this; rw [HN.out em hlt] at this; cases this))
        clear em HS HN
        go_wp2_with fail
        refine HK.out.mono ?_
        rintro e w1 ⟨rfl, hb1⟩
        have HB1 := Lib.hid (HB0.out.trans ((HB5.out.trans (hb1.mono HB5.out.size)).mono HB0.out.size))
        clear hb1
        go_wp2
        go_ret
        rw [HE.out]
        exact ⟨rfl, HB1.out⟩
      · rw [em] at HK
        have HSD := Lib.hid (HS.out.trans em)
        clear em HS HN
        go_wp2_with fail
        refine HK.out.mono ?_
        rintro e w1 ⟨rfl, hb1⟩
        have HB1 := Lib.hid (HB5.out.trans (hb1.mono HB5.out.size))
        clear hb1
        go_wp2
        go_roundw
        case rel => exact ⟨j + 1, by omega, by go_num, HSD.out, HB1.out⟩
        case measure => simp [intOf]; omega
    · obtain rfl : j = ks.length := by omega
      have HEM : Hid (ks.all kM = true) := Lib.hid (by have := HAL.out; rw [List.take_length] at this; exact this)
      have HX1 := Lib.hid (blk_below HX0.out HB4.out)
      have HB1 := Lib.hid (HB0.out.trans (HB4.out.mono HB0.out.size))
      obtain ⟨p0, p1, p2, p3, p4, p5, p6, p7⟩ := cells8 HX1.out
      clear hb HAL
      go_wp2
      go_loop [5, 31] (fun s i => (i = .int .i64 0 ∧ s = .int .i64 0) ∨ (i = .int .i64 1 ∧ s = .int .i64 b0 ∧ (0 ≤ b0 ∧ b0 ≤ 512)) ∨ (i = .int .i64 2 ∧ s = .int .i64 (b0 + b1) ∧ (0 ≤ b0 ∧ b0 ≤ 512) ∧ (0 ≤ b1 ∧ b1 ≤ 512)) ∨ (i = .int .i64 3 ∧ s = .int .i64 (b0 + b1 + b2) ∧ (0 ≤ b0 ∧ b0 ≤ 512) ∧ (0 ≤ b1 ∧ b1 ≤ 512) ∧ (0 ≤ b2 ∧ b2 ≤ 512)) ∨ (i = .int .i64 4 ∧ s = .int .i64 (b0 + b1 + b2 + b3) ∧ (0 ≤ b0 ∧ b0 ≤ 512) ∧ (0 ≤ b1 ∧ b1 ≤ 512) ∧ (0 ≤ b2 ∧ b2 ≤ 512) ∧ (0 ≤ b3 ∧ b3 ≤ 512))) (fun _ i => 4 - (intOf i).toNat)
      case atStart => exact .inl ⟨rfl, rfl⟩
      case round =>
        rcases hrel with ⟨rfl, rfl⟩ | ⟨rfl, rfl, y0⟩ | ⟨rfl, rfl, y0, y1⟩ | ⟨rfl, rfl, y0, y1, y2⟩ | ⟨rfl, rfl, y0, y1, y2, y3⟩
        · by_cases hlo : b0 < 0
          · have HE := Lib.hid (HNO.out (fun h => by have := h.b0.1; dsimp only at this; omega))
            go_wp2
            go_ret
            rw [HE.out]
            exact ⟨rfl, HB1.out⟩
          by_cases hhi : 512 < b0
          · have HE := Lib.hid (HNO.out (fun h => by have := h.b0.2; dsimp only at this; omega))
            go_wp2
            go_ret
            rw [HE.out]
            exact ⟨rfl, HB1.out⟩
          go_wp2
          go_round
          case rel => exact .inr (.inl ⟨rfl, by first | rfl | go_num | (simp only [Int.zero_add]), ⟨by omega, by omega⟩⟩)
          case measure => simp [intOf]
        · by_cases hlo : b1 < 0
          · have HE := Lib.hid (HNO.out (fun h => by have := h.b1.1; dsimp only at this; omega))
            go_wp2
            go_ret
            rw [HE.out]
            exact ⟨rfl, HB1.out⟩
          by_cases hhi : 512 < b1
          · have HE := Lib.hid (HNO.out (fun h => by have := h.b1.2; dsimp only at this; omega))
            go_wp2
            go_ret
            rw [HE.out]
            exact ⟨rfl, HB1.out⟩
          go_wp2
          go_round
          case rel => exact .inr (.inr (.inl ⟨rfl, by first | rfl | go_num | (simp only [Int.zero_add]), y0, ⟨by omega, by omega⟩⟩))
          case measure => simp [intOf]
        · by_cases hlo : b2 < 0
          · have HE := Lib.hid (HNO.out (fun h => by have := h.b2.1; dsimp only at this; omega))
            go_wp2
            go_ret
            rw [HE.out]
            exact ⟨rfl, HB1.out⟩
          by_cases hhi : 512 < b2
          · have HE := Lib.hid (HNO.out (fun h => by have := h.b2.2; dsimp only at this; omega))
            go_wp2
            go_ret
            rw [HE.out]
            exact ⟨rfl, HB1.out⟩
          go_wp2
          go_round
          case rel => exact .inr (.inr (.inr (.inl ⟨rfl, by first | rfl | go_num | (simp only [Int.zero_add]), y0, y1, ⟨by omega, by omega⟩⟩)))
          case measure => simp [intOf]
        · by_cases hlo : b3 < 0
          · have HE := Lib.hid (HNO.out (fun h => by have := h.b3.1; dsimp only at this; omega))
            go_wp2
            go_ret
            rw [HE.out]
            exact ⟨rfl, HB1.out⟩
          by_cases hhi : 512 < b3
          · have HE := Lib.hid (HNO.out (fun h => by have := h.b3.2; dsimp only at this; omega))
            go_wp2
            go_ret
            rw [HE.out]
            exact ⟨rfl, HB1.out⟩
          go_wp2
          go_round
          case rel => exact .inr (.inr (.inr (.inr ⟨rfl, by first | rfl | go_num | (simp only [Int.zero_add]), y0, y1, y2, ⟨by omega, by omega⟩⟩)))
          case measure => simp [intOf]
        · have HB1d := Lib.hid (HB1.out.drew)
          by_cases hs : (b0 + b1 + b2 + b3) = 0
          · have HE := Lib.hid (HNO.out (fun h => by have := h.s; dsimp only [cnt] at this; omega))
            have d0 : ((b0 + b1 + b2 + b3) == 0) = true := by rw [hs]; rfl
            go_wp2
            first | (go_region_law (first | (go_simp; go_at_call 31; refine (rneed_any _).mono ?_; rintro e w6 ⟨rfl, rfl⟩) | fail)) | fail
            all_goals
              go_wp2
              go_ret
              rw [HE.out]
              exact ⟨rfl, HB1d.out⟩
          have d0 : ((b0 + b1 + b2 + b3) == 0) = false := beq_eq_false_iff_ne.2 hs
          by_cases h1 : ro < 1
          · have HE := Lib.hid (HNO.out (fun h => by have := h.ro.1; dsimp only at this; omega))
            have d1 : decide (ro < 1) = true := decide_eq_true h1
            go_wp2
            first | (go_region_law (first | (go_simp; go_at_call 31; refine (rneed_any _).mono ?_; rintro e w6 ⟨rfl, rfl⟩) | fail)) | fail
            all_goals
              go_wp2
              go_ret
              rw [HE.out]
              exact ⟨rfl, HB1d.out⟩
          have d1 : decide (ro < 1) = false := decide_eq_false h1
          by_cases h2 : 16 < ro
          · have HE := Lib.hid (HNO.out (fun h => by have := h.ro.2; dsimp only at this; omega))
            have d2 : decide (16 < ro) = true := decide_eq_true h2
            go_wp2
            first | (go_region_law (first | (go_simp; go_at_call 31; refine (rneed_any _).mono ?_; rintro e w6 ⟨rfl, rfl⟩) | fail)) | fail
            all_goals
              go_wp2
              go_ret
              rw [HE.out]
              exact ⟨rfl, HB1d.out⟩
          have d2 : decide (16 < ro) = false := decide_eq_false h2
          by_cases h3 : we < 0
          · have HE := Lib.hid (HNO.out (fun h => by have := h.we.1; dsimp only at this; omega))
            have d3 : decide (we < 0) = true := decide_eq_true h3
            go_wp2
            first | (go_region_law (first | (go_simp; go_at_call 31; refine (rneed_any _).mono ?_; rintro e w6 ⟨rfl, rfl⟩) | fail)) | fail
            all_goals
              go_wp2
              go_ret
              rw [HE.out]
              exact ⟨rfl, HB1d.out⟩
          have d3 : decide (we < 0) = false := decide_eq_false h3
          by_cases h4 : 16 < we
          · have HE := Lib.hid (HNO.out (fun h => by have := h.we.2; dsimp only at this; omega))
            have d4 : decide (16 < we) = true := decide_eq_true h4
            go_wp2
            first | (go_region_law (first | (go_simp; go_at_call 31; refine (rneed_any _).mono ?_; rintro e w6 ⟨rfl, rfl⟩) | fail)) | fail
            all_goals
              go_wp2
              go_ret
              rw [HE.out]
              exact ⟨rfl, HB1d.out⟩
          have d4 : decide (16 < we) = false := decide_eq_false h4
          by_cases h5 : lg < 40
          · have HE := Lib.hid (HNO.out (fun h => by have := h.lg.1; dsimp only at this; omega))
            have d5 : decide (lg < 40) = true := decide_eq_true h5
            go_wp2
            first | (go_region_law (first | (go_simp; go_at_call 31; refine (rneed_any _).mono ?_; rintro e w6 ⟨rfl, rfl⟩) | fail)) | fail
            all_goals
              go_wp2
              go_ret
              rw [HE.out]
              exact ⟨rfl, HB1d.out⟩
          have d5 : decide (lg < 40) = false := decide_eq_false h5
          by_cases h6 : 4096 < lg
          · have HE := Lib.hid (HNO.out (fun h => by have := h.lg.2; dsimp only at this; omega))
            have d6 : decide (4096 < lg) = true := decide_eq_true h6
            go_wp2
            first | (go_region_law (first | (go_simp; go_at_call 31; refine (rneed_any _).mono ?_; rintro e w6 ⟨rfl, rfl⟩) | fail)) | fail
            all_goals
              go_wp2
              go_ret
              rw [HE.out]
              exact ⟨rfl, HB1d.out⟩
          have d6 : decide (4096 < lg) = false := decide_eq_false h6
          have hm : lg.tmod 8 = lg % 8 := Int.tmod_eq_emod_of_nonneg (by omega)
          by_cases hl3 : lg % 8 = 0
          · rw [hl3] at hm
            have HA : Arg ⟨ks, b0, b1, b2, b3, ro, we, lg⟩ := ⟨by dsimp only; omega, by dsimp only; omega, HEM.out, y0, y1, y2, y3, by dsimp only [cnt]; omega, ⟨by dsimp only; omega, by dsimp only; omega⟩, ⟨by dsimp only; omega, by dsimp only; omega⟩, ⟨by dsimp only; omega, by dsimp only; omega⟩, hl3⟩
            have HPL := Lib.hid (Rl.lay_any A k ks b0 b1 b2 b3 ro we lg wr.drew HA.fit)
            by_cases hw : wordsA ⟨ks, b0, b1, b2, b3, ro, we, lg⟩ ≤ 65536
            · have HE := Lib.hid (HOK.out HA (by omega))
              obtain ⟨v, hv⟩ : ∃ v, wordsA ⟨ks, b0, b1, b2, b3, ro, we, lg⟩ = v := ⟨_, rfl⟩
              rw [hv] at HPL hw
              clear hv HA
              go_wp2
              first | (go_region_law (first | (go_simp; go_at_call 31; refine (rneed_any _).mono ?_; rintro e w6 ⟨rfl, rfl⟩) | fail)) | fail
              all_goals
                go_wp2_with fail
                refine HPL.out.mono ?_
                rintro e w3 ⟨rfl, hb3, hx3⟩
                have c12 : w3.cell? ⟨wr.heap.size + 1, 19, none⟩ = some (.int .i64 v) := hx3
                have HB3 := Lib.hid (HB1d.out.trans (hb3.mono HB1d.out.size))
                clear hb3 hx3
                go_wp2
                go_ret
                rw [HE.out]
                exact ⟨rfl, HB3.out⟩
            · have HE := Lib.hid (HMA.out HA (by omega))
              obtain ⟨v, hv⟩ : ∃ v, wordsA ⟨ks, b0, b1, b2, b3, ro, we, lg⟩ = v := ⟨_, rfl⟩
              rw [hv] at HPL hw
              clear hv HA
              go_wp2
              first | (go_region_law (first | (go_simp; go_at_call 31; refine (rneed_any _).mono ?_; rintro e w6 ⟨rfl, rfl⟩) | fail)) | fail
              all_goals
                go_wp2_with fail
                refine HPL.out.mono ?_
                rintro e w3 ⟨rfl, hb3, hx3⟩
                have c12 : w3.cell? ⟨wr.heap.size + 1, 19, none⟩ = some (.int .i64 v) := hx3
                have HB3 := Lib.hid (HB1d.out.trans (hb3.mono HB1d.out.size))
                clear hb3 hx3
                go_wp2
                go_ret
                rw [HE.out]
                exact ⟨rfl, HB3.out⟩
          · have HE := Lib.hid (HNO.out (fun h => hl3 h.m))
            obtain ⟨m, hm'⟩ : ∃ m, lg % 8 = m := ⟨_, rfl⟩
            have hmb : 0 ≤ m ∧ m < 8 := by omega
            rw [hm'] at hm hl3
            have bm : (m == 0) = false := beq_eq_false_iff_ne.2 hl3
            have bm2 : (m != 0) = true := bne_iff_ne.2 hl3
            clear hm' hl3
            go_wp2
            first | (go_region_law (first | (go_simp; go_at_call 31; refine (rneed_any _).mono ?_; rintro e w6 ⟨rfl, rfl⟩) | fail)) | fail
            all_goals
              go_wp2
              go_ret
              rw [HE.out]
              exact ⟨rfl, HB1d.out⟩
end Go.Proofs.Ytlmlckidgfnhdaa.Mr
