/- At; Size. -/
import Derived.Test.YtlmlckidgfnhdaaCa
namespace Go.Proofs.Ytlmlckidgfnhdaa.Ta
open Go.RowKit Go.ChangeShapes Go.WideShapes Go.Proofs.YtlmlckidgfnhdaaW.PrintWords Go.Proofs.Ytlmlckidgfnhdaa.Ba Go.Proofs.Ytlmlckidgfnhdaa.Kw Go.Proofs.Ytlmlckidgfnhdaa.Kx Go.Proofs.Ytlmlckidgfnhdaa.Pl Go.Proofs.Ytlmlckidgfnhdaa.Pc Go.Proofs.Ytlmlckidgfnhdaa.My Go.Proofs.Ytlmlckidgfnhdaa.Nw Go.Proofs.Ytlmlckidgfnhdaa.Rg Go.Proofs.Ytlmlckidgfnhdaa.Ca
set_option linter.unusedVariables false
set_option linter.unusedSimpArgs false
theorem cls_cases (c : Cf) (b : Int) : (cls c b = -1) ∨ (cls c b = 0 ∧ 0 ≤ b ∧ b < c.b0) ∨ (cls c b = 1 ∧ c.b0 ≤ b ∧ b < c.b0 + c.b1) ∨ (cls c b = 2 ∧ c.b0 + c.b1 ≤ b ∧ b < c.b0 + c.b1 + c.b2) ∨ (cls c b = 3 ∧ c.b0 + c.b1 + c.b2 ≤ b ∧ b < c.b0 + c.b1 + c.b2 + c.b3) := by
  unfold cls
  by_cases h0 : inC 0 c.b0 b
  · rw [if_pos h0]; exact .inr (.inl ⟨rfl, h0⟩)
  rw [if_neg h0]
  by_cases h1 : inC c.b0 (c.b0 + c.b1) b
  · rw [if_pos h1]; exact .inr (.inr (.inl ⟨rfl, h1⟩))
  rw [if_neg h1]
  by_cases h2 : inC (c.b0 + c.b1) (c.b0 + c.b1 + c.b2) b
  · rw [if_pos h2]; exact .inr (.inr (.inr (.inl ⟨rfl, h2⟩)))
  rw [if_neg h2]
  by_cases h3 : inC (c.b0 + c.b1 + c.b2) (c.b0 + c.b1 + c.b2 + c.b3) b
  · rw [if_pos h3]; exact .inr (.inr (.inr (.inr ⟨rfl, h3⟩)))
  rw [if_neg h3]
  exact .inl rfl
def atA (c : Cf) (b : Int) : Int := if cls c b = 0 then blocksA c + b * 2 else if cls c b = 1 then blocksA c + c.b0 * 2 + (b - c.b0) * 4 else if cls c b = 2 then blocksA c + c.b0 * 2 + c.b1 * 4 + (b - (c.b0 + c.b1)) * 8
  else if cls c b = 3 then blocksA c + c.b0 * 2 + c.b1 * 4 + c.b2 * 8 + (b - (c.b0 + c.b1 + c.b2)) * 16 else -1
theorem blocks_b {c : Cf} (h : Fit c) : 0 ≤ blocksA c ∧ blocksA c ≤ 10000 := by
  obtain ⟨fk, ⟨f0, g0⟩, ⟨f1, g1⟩, ⟨f2, g2⟩, ⟨f3, g3⟩, ⟨f5, g5⟩, ⟨f6, g6⟩, ⟨f7, g7⟩⟩ := h
  have h1 := ln_b (x := 9 + (c.ks.length : Int)) (by omega)
  have h2 := ln_b (x := rootsA c + c.ro + c.we) (by unfold rootsA; omega)
  have hc : 0 ≤ (cnt c + 63) / 64 ∧ (cnt c + 63) / 64 ≤ 40 := by unfold cnt; omega
  have e1 : rootsA c = ln (9 + c.ks.length) := rfl
  have e2 : bitsA c = ln (rootsA c + c.ro + c.we) := rfl
  have h3 := ln_b (x := bitsA c + (cnt c + 63) / 64) (by omega)
  have e3 : logA c = ln (bitsA c + (cnt c + 63) / 64) := rfl
  have e4 : blocksA c = logA c + c.lg := rfl
  omega
set_option maxHeartbeats 16000000 in
set_option maxRecDepth 20000 in
theorem at_any (g : Nat) (A : Option Addr) (k : Nat) (ks : List (List Int)) (b0 b1 b2 b3 ro we lg b : Int) (w : World) (h : LAt w g A k ⟨ks, b0, b1, b2, b3, ro, we, lg⟩) (ha : Fit ⟨ks, b0, b1, b2, b3, ro, we, lg⟩) :
    Calls Try.prog 13 #[.pointer (some ⟨g, 0, none⟩), .int .i64 b] w (IntPost (atA ⟨ks, b0, b1, b2, b3, ro, we, lg⟩ b) w) := by
  have HL := Lib.hid h
  have HF : Hid (Bd ⟨ks, b0, b1, b2, b3, ro, we, lg⟩) := Lib.hid ⟨ha.b0, ha.b1, ha.b2, ha.b3⟩
  have hbb := blocks_b ha
  obtain ⟨⟨f0, g0⟩, ⟨f1, g1⟩, ⟨f2, g2⟩, ⟨f3, g3⟩⟩ := HF.out
  dsimp only at f0 g0 f1 g1 f2 g2 f3 g3
  have HC := Lib.hid (class_any g A k ks b0 b1 b2 b3 ro we lg b w h HF.out)
  have HX : Hid (∀ W, Below w.heap.size w W → W.cell? ⟨g, 1, none⟩ = some (.int .i64 b0) ∧ W.cell? ⟨g, 2, none⟩ = some (.int .i64 b1) ∧ W.cell? ⟨g, 3, none⟩ = some (.int .i64 b2) ∧ W.cell? ⟨g, 4, none⟩ = some (.int .i64 b3) ∧ W.cell? ⟨g, 11, none⟩ = some (.int .i64 (blocksA ⟨ks, b0, b1, b2, b3, ro, we, lg⟩))) := Lib.hid (fun W hb => cells13 (h.below hb))
  have HAT : Hid (atA ⟨ks, b0, b1, b2, b3, ro, we, lg⟩ b = if cls ⟨ks, b0, b1, b2, b3, ro, we, lg⟩ b = 0 then blocksA ⟨ks, b0, b1, b2, b3, ro, we, lg⟩ + b * 2 else if cls ⟨ks, b0, b1, b2, b3, ro, we, lg⟩ b = 1 then blocksA ⟨ks, b0, b1, b2, b3, ro, we, lg⟩ + b0 * 2 + (b - b0) * 4 else if cls ⟨ks, b0, b1, b2, b3, ro, we, lg⟩ b = 2 then blocksA ⟨ks, b0, b1, b2, b3, ro, we, lg⟩ + b0 * 2 + b1 * 4 + (b - (b0 + b1)) * 8
    else if cls ⟨ks, b0, b1, b2, b3, ro, we, lg⟩ b = 3 then blocksA ⟨ks, b0, b1, b2, b3, ro, we, lg⟩ + b0 * 2 + b1 * 4 + b2 * 8 + (b - (b0 + b1 + b2)) * 16 else -1) := Lib.hid rfl
  obtain ⟨bb, hbb'⟩ : ∃ bb, blocksA ⟨ks, b0, b1, b2, b3, ro, we, lg⟩ = bb := ⟨_, rfl⟩
  rw [hbb'] at hbb HX HAT
  obtain ⟨K, hK⟩ : ∃ K, cls ⟨ks, b0, b1, b2, b3, ro, we, lg⟩ b = K := ⟨_, rfl⟩
  have hcs := cls_cases ⟨ks, b0, b1, b2, b3, ro, we, lg⟩ b
  rw [hK] at hcs HC HAT
  dsimp only at hcs
  obtain ⟨T, hT⟩ : ∃ T, atA ⟨ks, b0, b1, b2, b3, ro, we, lg⟩ b = T := ⟨_, rfl⟩
  rw [hT] at HAT ⊢
  clear h ha hbb' hK hT
  rcases hcs with rfl | ⟨rfl, h1, h2⟩ | ⟨rfl, h1, h2⟩ | ⟨rfl, h1, h2⟩ | ⟨rfl, h1, h2⟩
  · have HT : Hid (T = -1) := Lib.hid (by rw [HAT.out]; rfl)
    go_enter Try.func13, Try.ntmps13
    go_wp2_with fail
    refine HC.out.mono ?_
    rintro e w1 ⟨rfl, hb1⟩
    go_wp2
    go_ret
    rw [HT.out]
    exact ⟨rfl, hb1⟩
  · have HT : Hid (T = bb + b * 2) := Lib.hid (by rw [HAT.out]; rfl)
    clear HAT
    go_enter Try.func13, Try.ntmps13
    go_wp2_with fail
    refine HC.out.mono ?_
    rintro e w1 ⟨rfl, hb1⟩
    have HB1 := Lib.hid hb1
    obtain ⟨c1, c2, c3, c4, c11⟩ := HX.out w1 hb1
    clear hb1
    go_wp2
    go_loopw [6, 20] (fun s i wr => (i = .int .i64 0 ∧ s = .int .i64 (bb) ∧ Below w.heap.size w wr)) (fun _ i _ => 0 - (intOf i).toNat)
    case atStart => exact ⟨rfl, rfl, HB1.out⟩
    case round =>
      clear c1 c2 c3 c4 c11
      obtain ⟨rfl, rfl, hb⟩ := hrel
      · have HB := Lib.hid hb
        have HR := Lib.hid (range0 g A k ks b0 b1 b2 b3 ro we lg wr (HL.out.below hb) HF.out)
        clear hb
        go_wp2_with fail
        refine HR.out.mono ?_
        rintro e w2 ⟨rfl, hb2⟩
        have HB2 := Lib.hid (HB.out.trans (hb2.mono HB.out.size))
        clear hb2
        go_wp2_with fail
        refine (size0 _).mono ?_
        rintro e w3 ⟨rfl, rfl⟩
        go_wp2
        go_ret
        rw [HT.out]
        exact ⟨by first | rfl | (simp only [Int.sub_zero]), HB2.out⟩
  · have HT : Hid (T = bb + b0 * 2 + (b - b0) * 4) := Lib.hid (by rw [HAT.out]; rfl)
    clear HAT
    go_enter Try.func13, Try.ntmps13
    go_wp2_with fail
    refine HC.out.mono ?_
    rintro e w1 ⟨rfl, hb1⟩
    have HB1 := Lib.hid hb1
    obtain ⟨c1, c2, c3, c4, c11⟩ := HX.out w1 hb1
    clear hb1
    go_wp2
    go_loopw [6, 20] (fun s i wr => (i = .int .i64 0 ∧ s = .int .i64 (bb) ∧ Below w.heap.size w wr) ∨ (i = .int .i64 1 ∧ s = .int .i64 (bb + b0 * 2) ∧ Below w.heap.size w wr)) (fun _ i _ => 1 - (intOf i).toNat)
    case atStart => exact .inl ⟨rfl, rfl, HB1.out⟩
    case round =>
      clear c1 c2 c3 c4 c11
      rcases hrel with ⟨rfl, rfl, hb⟩ | ⟨rfl, rfl, hb⟩
      · have HB := Lib.hid hb
        obtain ⟨c1, c2, c3, c4, c11⟩ := HX.out wr.drew hb.drew
        clear hb
        go_wp2
        go_region_law (first | (go_simp; go_at_call 36; refine (size0 _).mono ?_; rintro e w6 ⟨rfl, rfl⟩) | fail)
        all_goals
          go_wp2
          go_roundw
          case rel => exact .inr ⟨rfl, by first | rfl | go_num, HB.out.drew⟩
          case measure => simp [intOf]
      · have HB := Lib.hid hb
        have HR := Lib.hid (range1 g A k ks b0 b1 b2 b3 ro we lg wr (HL.out.below hb) HF.out)
        clear hb
        go_wp2_with fail
        refine HR.out.mono ?_
        rintro e w2 ⟨rfl, hb2⟩
        have HB2 := Lib.hid (HB.out.trans (hb2.mono HB.out.size))
        clear hb2
        go_wp2_with fail
        refine (size1 _).mono ?_
        rintro e w3 ⟨rfl, rfl⟩
        go_wp2
        go_ret
        rw [HT.out]
        exact ⟨by first | rfl | (simp only [Int.sub_zero]), HB2.out⟩
  · have HT : Hid (T = bb + b0 * 2 + b1 * 4 + (b - (b0 + b1)) * 8) := Lib.hid (by rw [HAT.out]; rfl)
    clear HAT
    go_enter Try.func13, Try.ntmps13
    go_wp2_with fail
    refine HC.out.mono ?_
    rintro e w1 ⟨rfl, hb1⟩
    have HB1 := Lib.hid hb1
    obtain ⟨c1, c2, c3, c4, c11⟩ := HX.out w1 hb1
    clear hb1
    go_wp2
    go_loopw [6, 20] (fun s i wr => (i = .int .i64 0 ∧ s = .int .i64 (bb) ∧ Below w.heap.size w wr) ∨ (i = .int .i64 1 ∧ s = .int .i64 (bb + b0 * 2) ∧ Below w.heap.size w wr) ∨ (i = .int .i64 2 ∧ s = .int .i64 (bb + b0 * 2 + b1 * 4) ∧ Below w.heap.size w wr)) (fun _ i _ => 2 - (intOf i).toNat)
    case atStart => exact .inl ⟨rfl, rfl, HB1.out⟩
    case round =>
      clear c1 c2 c3 c4 c11
      rcases hrel with ⟨rfl, rfl, hb⟩ | ⟨rfl, rfl, hb⟩ | ⟨rfl, rfl, hb⟩
      · have HB := Lib.hid hb
        obtain ⟨c1, c2, c3, c4, c11⟩ := HX.out wr.drew hb.drew
        clear hb
        go_wp2
        go_region_law (first | (go_simp; go_at_call 36; refine (size0 _).mono ?_; rintro e w6 ⟨rfl, rfl⟩) | fail)
        all_goals
          go_wp2
          go_roundw
          case rel => exact .inr (.inl ⟨rfl, by first | rfl | go_num, HB.out.drew⟩)
          case measure => simp [intOf]
      · have HB := Lib.hid hb
        obtain ⟨c1, c2, c3, c4, c11⟩ := HX.out wr.drew hb.drew
        clear hb
        go_wp2
        go_region_law (first | (go_simp; go_at_call 36; refine (size1 _).mono ?_; rintro e w6 ⟨rfl, rfl⟩) | fail)
        all_goals
          go_wp2
          go_roundw
          case rel => exact .inr (.inr ⟨rfl, by first | rfl | go_num, HB.out.drew⟩)
          case measure => simp [intOf]
      · have HB := Lib.hid hb
        have HR := Lib.hid (range2 g A k ks b0 b1 b2 b3 ro we lg wr (HL.out.below hb) HF.out)
        clear hb
        go_wp2_with fail
        refine HR.out.mono ?_
        rintro e w2 ⟨rfl, hb2⟩
        have HB2 := Lib.hid (HB.out.trans (hb2.mono HB.out.size))
        clear hb2
        go_wp2_with fail
        refine (size2 _).mono ?_
        rintro e w3 ⟨rfl, rfl⟩
        go_wp2
        go_ret
        rw [HT.out]
        exact ⟨by first | rfl | (simp only [Int.sub_zero]), HB2.out⟩
  · have HT : Hid (T = bb + b0 * 2 + b1 * 4 + b2 * 8 + (b - (b0 + b1 + b2)) * 16) := Lib.hid (by rw [HAT.out]; rfl)
    clear HAT
    go_enter Try.func13, Try.ntmps13
    go_wp2_with fail
    refine HC.out.mono ?_
    rintro e w1 ⟨rfl, hb1⟩
    have HB1 := Lib.hid hb1
    obtain ⟨c1, c2, c3, c4, c11⟩ := HX.out w1 hb1
    clear hb1
    go_wp2
    go_loopw [6, 20] (fun s i wr => (i = .int .i64 0 ∧ s = .int .i64 (bb) ∧ Below w.heap.size w wr) ∨ (i = .int .i64 1 ∧ s = .int .i64 (bb + b0 * 2) ∧ Below w.heap.size w wr) ∨ (i = .int .i64 2 ∧ s = .int .i64 (bb + b0 * 2 + b1 * 4) ∧ Below w.heap.size w wr) ∨ (i = .int .i64 3 ∧ s = .int .i64 (bb + b0 * 2 + b1 * 4 + b2 * 8) ∧ Below w.heap.size w wr)) (fun _ i _ => 3 - (intOf i).toNat)
    case atStart => exact .inl ⟨rfl, rfl, HB1.out⟩
    case round =>
      clear c1 c2 c3 c4 c11
      rcases hrel with ⟨rfl, rfl, hb⟩ | ⟨rfl, rfl, hb⟩ | ⟨rfl, rfl, hb⟩ | ⟨rfl, rfl, hb⟩
      · have HB := Lib.hid hb
        obtain ⟨c1, c2, c3, c4, c11⟩ := HX.out wr.drew hb.drew
        clear hb
        go_wp2
        go_region_law (first | (go_simp; go_at_call 36; refine (size0 _).mono ?_; rintro e w6 ⟨rfl, rfl⟩) | fail)
        all_goals
          go_wp2
          go_roundw
          case rel => exact .inr (.inl ⟨rfl, by first | rfl | go_num, HB.out.drew⟩)
          case measure => simp [intOf]
      · have HB := Lib.hid hb
        obtain ⟨c1, c2, c3, c4, c11⟩ := HX.out wr.drew hb.drew
        clear hb
        go_wp2
        go_region_law (first | (go_simp; go_at_call 36; refine (size1 _).mono ?_; rintro e w6 ⟨rfl, rfl⟩) | fail)
        all_goals
          go_wp2
          go_roundw
          case rel => exact .inr (.inr (.inl ⟨rfl, by first | rfl | go_num, HB.out.drew⟩))
          case measure => simp [intOf]
      · have HB := Lib.hid hb
        obtain ⟨c1, c2, c3, c4, c11⟩ := HX.out wr.drew hb.drew
        clear hb
        go_wp2
        go_region_law (first | (go_simp; go_at_call 36; refine (size2 _).mono ?_; rintro e w6 ⟨rfl, rfl⟩) | fail)
        all_goals
          go_wp2
          go_roundw
          case rel => exact .inr (.inr (.inr ⟨rfl, by first | rfl | go_num, HB.out.drew⟩))
          case measure => simp [intOf]
      · have HB := Lib.hid hb
        have HR := Lib.hid (range3 g A k ks b0 b1 b2 b3 ro we lg wr (HL.out.below hb) HF.out)
        clear hb
        go_wp2_with fail
        refine HR.out.mono ?_
        rintro e w2 ⟨rfl, hb2⟩
        have HB2 := Lib.hid (HB.out.trans (hb2.mono HB.out.size))
        clear hb2
        go_wp2_with fail
        refine (size3 _).mono ?_
        rintro e w3 ⟨rfl, rfl⟩
        go_wp2
        go_ret
        rw [HT.out]
        exact ⟨by first | rfl | (simp only [Int.sub_zero]), HB2.out⟩
end Go.Proofs.Ytlmlckidgfnhdaa.Ta
