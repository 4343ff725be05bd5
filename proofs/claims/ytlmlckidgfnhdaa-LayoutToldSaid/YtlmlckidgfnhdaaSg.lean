/- Configs: the same? Of any two. -/
import Derived.Test.YtlmlckidgfnhdaaSc
namespace Go.Proofs.Ytlmlckidgfnhdaa.Sg
open Go.RowKit Go.ChangeShapes Go.WideShapes Go.Proofs.YtlmlckidgfnhdaaW.PrintWords Go.Proofs.Ytlmlckidgfnhdaa.Ba Go.Proofs.Ytlmlckidgfnhdaa.Pc Go.Proofs.Ytlmlckidgfnhdaa.Sc2
set_option linter.unusedVariables false
set_option linter.unusedSimpArgs false
theorem ks_eq {xs ys : List (List Int)} (hl : xs.length = ys.length) (h : ∀ t, t < xs.length → xs.getD t [] = ys.getD t []) : xs = ys := by
  refine List.ext_getElem hl fun i h1 h2 => ?_
  have := h i h1
  rw [List.getD_eq_getElem?_getD, List.getElem?_eq_getElem h1, List.getD_eq_getElem?_getD, List.getElem?_eq_getElem h2] at this
  exact this
set_option maxHeartbeats 16000000 in
set_option maxRecDepth 20000 in
theorem samecfg_any (A B : Option Addr) (k k' : Nat) (ks ls : List (List Int)) (b0 b1 b2 b3 ro we lg c0 c1 c2 c3 rp wp lp : Int) (w : World) (ha : Ks w A ks) (hbk : Ks w B ls) (hkl : ks.length ≤ 1000) (hfl : ∀ x ∈ ks, x.length ≤ 1000) :
    Calls Try.prog 18 #[.agg #[.slice A ks.length k, .int .i64 b0, .int .i64 b1, .int .i64 b2, .int .i64 b3, .int .i64 ro, .int .i64 we, .int .i64 lg], .agg #[.slice B ls.length k', .int .i64 c0, .int .i64 c1, .int .i64 c2, .int .i64 c3, .int .i64 rp, .int .i64 wp, .int .i64 lp]] w (BoolPost (decide ((⟨ks, b0, b1, b2, b3, ro, we, lg⟩ : Cf) = ⟨ls, c0, c1, c2, c3, rp, wp, lp⟩)) w) := by
  have HD : Hid (∀ {P : Prop}, (⟨ks, b0, b1, b2, b3, ro, we, lg⟩ : Cf) = ⟨ls, c0, c1, c2, c3, rp, wp, lp⟩ → ((⟨ks, b0, b1, b2, b3, ro, we, lg⟩ : Cf) = ⟨ls, c0, c1, c2, c3, rp, wp, lp⟩)) := Lib.hid (fun h => h)
  have HI : Hid ((⟨ks, b0, b1, b2, b3, ro, we, lg⟩ : Cf) = ⟨ls, c0, c1, c2, c3, rp, wp, lp⟩ ↔ ks = ls ∧ b0 = c0 ∧ b1 = c1 ∧ b2 = c2 ∧ b3 = c3 ∧ ro = rp ∧ we = wp ∧ lg = lp) := Lib.hid ⟨fun h => by injection h with h1 h2 h3 h4 h5 h6 h7 h8; exact ⟨h1, h2, h3, h4, h5, h6, h7, h8⟩, fun ⟨h1, h2, h3, h4, h5, h6, h7, h8⟩ => by subst h1 h2 h3 h4 h5 h6 h7 h8; rfl⟩
  have HNOT : Hid (¬ ((⟨ks, b0, b1, b2, b3, ro, we, lg⟩ : Cf) = ⟨ls, c0, c1, c2, c3, rp, wp, lp⟩) → decide ((⟨ks, b0, b1, b2, b3, ro, we, lg⟩ : Cf) = ⟨ls, c0, c1, c2, c3, rp, wp, lp⟩) = false) := Lib.hid (fun h => decide_eq_false h)
  have HYES : Hid ((⟨ks, b0, b1, b2, b3, ro, we, lg⟩ : Cf) = ⟨ls, c0, c1, c2, c3, rp, wp, lp⟩ → decide ((⟨ks, b0, b1, b2, b3, ro, we, lg⟩ : Cf) = ⟨ls, c0, c1, c2, c3, rp, wp, lp⟩) = true) := Lib.hid (fun h => decide_eq_true h)
  clear HD
  obtain ⟨R, hR⟩ : ∃ R, decide ((⟨ks, b0, b1, b2, b3, ro, we, lg⟩ : Cf) = ⟨ls, c0, c1, c2, c3, rp, wp, lp⟩) = R := ⟨_, rfl⟩
  rw [hR] at HNOT HYES ⊢
  clear hR
  have ke : ∀ W : World, (binOp .neq 23 (.agg #[.int .i64 b0, .int .i64 b1, .int .i64 b2, .int .i64 b3]) (.agg #[.int .i64 c0, .int .i64 c1, .int .i64 c2, .int .i64 c3])).run Try.prog W = .ok (.bool (!(b0 == c0 && (b1 == c1 && (b2 == c2 && b3 == c3))))) W := fun W => by go_simp; rw [eqarr]; simp
  obtain ⟨w0, hw0⟩ : ∃ w0, (w.alloc (.cells #[.slice A ks.length k, .int .i64 b0, .int .i64 b1, .int .i64 b2, .int .i64 b3, .int .i64 ro, .int .i64 we, .int .i64 lg] 25)).alloc (.cells #[.slice B ls.length k', .int .i64 c0, .int .i64 c1, .int .i64 c2, .int .i64 c3, .int .i64 rp, .int .i64 wp, .int .i64 lp] 25) = w0 := ⟨_, rfl⟩
  have HB0 : Hid (Below w.heap.size w w0) := Lib.hid (by rw [← hw0]; exact ((Below.refl _ _).alloc (Nat.le_refl _) _).alloc (by simp) _)
  have HXA : Hid (w0.heap[w.heap.size]? = some (.cells #[.slice A ks.length k, .int .i64 b0, .int .i64 b1, .int .i64 b2, .int .i64 b3, .int .i64 ro, .int .i64 we, .int .i64 lg] 25 (0, 0))) := Lib.hid (by rw [← hw0]; exact blk_alloc (heap_alloc_new w _) _)
  have HXB : Hid (w0.heap[w.heap.size + 1]? = some (.cells #[.slice B ls.length k', .int .i64 c0, .int .i64 c1, .int .i64 c2, .int .i64 c3, .int .i64 rp, .int .i64 wp, .int .i64 lp] 25 (0, 0))) := Lib.hid (by rw [← hw0, ← size_al w (.cells #[.slice A ks.length k, .int .i64 b0, .int .i64 b1, .int .i64 b2, .int .i64 b3, .int .i64 ro, .int .i64 we, .int .i64 lg] 25)]; exact heap_alloc_new _ _)
  have HKA := Lib.hid (ha.old HB0.out.block)
  have HKB := Lib.hid (hbk.old HB0.out.block)
  have HFL := Lib.hid hfl
  obtain ⟨p0, p1, p2, p3, p4, p5, p6, p7⟩ := cells8 HXA.out
  obtain ⟨r0, r1, r2, r3, r4, r5, r6, r7⟩ := cells8 HXB.out
  clear ha hbk hfl
  cases hE : (b0 == c0 && (b1 == c1 && (b2 == c2 && b3 == c3)))
  · have HR := Lib.hid (HNOT.out (fun h => by obtain ⟨_, rfl, rfl, rfl, rfl, _⟩ := HI.out.1 h; simp at hE))
    rw [hE] at ke
    clear hE
    go_enter Try.func18, Try.ntmps18
    go_wp2
    go_ret
    rw [HR.out]
    exact ⟨rfl, HB0.out⟩
  rw [hE] at ke
  have HBE : Hid (b0 = c0 ∧ b1 = c1 ∧ b2 = c2 ∧ b3 = c3) := Lib.hid (by simpa using hE)
  clear hE
  by_cases h0 : ro = rp
  case neg =>
    have HR := Lib.hid (HNOT.out (fun h => h0 (HI.out.1 h).2.2.2.2.2.1))
    have e0 : (ro == rp) = false := beq_eq_false_iff_ne.2 h0
    have e1 : (ro != rp) = true := bne_iff_ne.2 h0
    clear h0
    go_enter Try.func18, Try.ntmps18
    go_wp2
    go_ret
    rw [HR.out]
    exact ⟨rfl, HB0.out⟩
  have n0 : (ro != rp) = false := by rw [h0]; simp
  have m0 : (ro == rp) = true := by rw [h0]; simp
  have HE0 := Lib.hid h0
  clear h0
  by_cases h1 : we = wp
  case neg =>
    have HR := Lib.hid (HNOT.out (fun h => h1 (HI.out.1 h).2.2.2.2.2.2.1))
    have e0 : (we == wp) = false := beq_eq_false_iff_ne.2 h1
    have e1 : (we != wp) = true := bne_iff_ne.2 h1
    clear h1
    go_enter Try.func18, Try.ntmps18
    go_wp2
    go_ret
    rw [HR.out]
    exact ⟨rfl, HB0.out⟩
  have n1 : (we != wp) = false := by rw [h1]; simp
  have m1 : (we == wp) = true := by rw [h1]; simp
  have HE1 := Lib.hid h1
  clear h1
  by_cases h2 : lg = lp
  case neg =>
    have HR := Lib.hid (HNOT.out (fun h => h2 (HI.out.1 h).2.2.2.2.2.2.2))
    have e0 : (lg == lp) = false := beq_eq_false_iff_ne.2 h2
    have e1 : (lg != lp) = true := bne_iff_ne.2 h2
    clear h2
    go_enter Try.func18, Try.ntmps18
    go_wp2
    go_ret
    rw [HR.out]
    exact ⟨rfl, HB0.out⟩
  have n2 : (lg != lp) = false := by rw [h2]; simp
  have m2 : (lg == lp) = true := by rw [h2]; simp
  have HE2 := Lib.hid h2
  clear h2
  by_cases h3 : ks.length = ls.length
  case neg =>
    have HR := Lib.hid (HNOT.out (fun h => h3 (by rw [(HI.out.1 h).1])))
    have e0 : ((ks.length : Int) == (ls.length : Int)) = false := beq_eq_false_iff_ne.2 (by omega)
    have e1 : ((ks.length : Int) != (ls.length : Int)) = true := bne_iff_ne.2 (by omega)
    clear h3
    go_enter Try.func18, Try.ntmps18
    go_wp2
    go_ret
    rw [HR.out]
    exact ⟨rfl, HB0.out⟩
  have HLL := Lib.hid h3
  have n3 : ((ks.length : Int) != (ls.length : Int)) = false := by rw [h3]; simp
  clear h3
  go_enter Try.func18, Try.ntmps18
  go_wp2
  go_loopw [44] (fun i wr => ∃ j : Nat, j ≤ ks.length ∧ i = .int .i64 (j : Int) ∧ (∀ t, t < j → ks.getD t [] = ls.getD t []) ∧ Below w0.heap.size w0 wr) (fun i _ => ks.length - (intOf i).toNat)
  case atStart => exact ⟨0, by omega, rfl, fun t ht => by omega, Below.refl _ _⟩
  case round =>
    obtain ⟨j, hj, rfl, hal, hb⟩ := hrel
    have HAL := Lib.hid hal
    have HB := Lib.hid hb
    clear hal p0 p1 p2 p3 p4 p5 p6 p7 r0 r1 r2 r3 r4 r5 r6 r7
    by_cases hlt : j < ks.length
    · have hlt2 : j < ls.length := by have := HLL.out; omega
      obtain ⟨ad, rfl, A1, c1, hc, hl1, hr⟩ := HKA.out.old hb.block j hlt
      obtain ⟨bd, rfl, B1, d1, hd, hl2, hr2⟩ := HKB.out.old hb.block j hlt2
      have hf := HFL.out _ (mem_getD (d := ([] : List Int)) hlt)
      have HNX : Hid (ks.getD j [] = ls.getD j [] → ∀ t, t < j + 1 → ks.getD t [] = ls.getD t []) := Lib.hid (fun h t ht => by
        rcases Nat.lt_or_ge t j with h1 | h1
        · exact HAL.out t h1
        · rw [show t = j by omega]; exact h)
      have HNE : Hid (ks.getD j [] ≠ ls.getD j [] → R = false) := Lib.hid (fun h => HNOT.out (fun e => h (by rw [(HI.out.1 e).1])))
      obtain ⟨f, hfe⟩ : ∃ f, ks.getD j [] = f := ⟨_, rfl⟩
      obtain ⟨f2, hfe2⟩ : ∃ f, ls.getD j [] = f := ⟨_, rfl⟩
      rw [hfe] at hc hr hf hl1 HNX HNE
      rw [hfe2] at hd hr2 hl2 HNX HNE
      have HSK := Lib.hid (samekind_any A1 B1 c1 d1 f f2 wr.drew hr hr2 (by omega))
      have p0 : wr.drew.cell? ⟨w.heap.size, 0, none⟩ = some (.slice (some ad) ks.length k) := (blk_cell (blk_below HXA.out hb) 0).trans rfl
      have r0 : wr.drew.cell? ⟨w.heap.size + 1, 0, none⟩ = some (.slice (some bd) ls.length k') := (blk_cell (blk_below HXB.out hb) 0).trans rfl
      have hc' : wr.drew.cell? (ad.add j) = some (.slice A1 f.length c1) := hc
      have hd' : wr.drew.cell? (bd.add j) = some (.slice B1 f2.length d1) := hd
      clear hb hfe hfe2 hr hr2 hl1 hl2
      cases hef : decide (f = f2)
      · rw [hef] at HSK
        have HRF := Lib.hid (HNE.out (of_decide_eq_false hef))
        clear hef
        go_wp2
        go_region_held3 (fun w' => w'.cell? ⟨w.heap.size, 0, none⟩ = some (.slice (some ad) ks.length k) ∧ w'.cell? ⟨w.heap.size + 1, 0, none⟩ = some (.slice (some bd) ls.length k') ∧ w'.cell? (ad.add j) = some (.slice A1 f.length c1) ∧ w'.cell? (bd.add j) = some (.slice B1 f2.length d1))
          (first | (refine ⟨?_, ?_, ?_, ?_⟩ <;> assumption) | go_keep)
          (first | (go_at_call 40; go_must (refine HSK.out.mono ?_; rintro e w6 ⟨rfl, hb6⟩; have s0 := cell_old p0 hb6.block; have s1 := cell_old r0 hb6.block; have s2 := cell_old hc' hb6.block; have s3 := cell_old hd' hb6.block)) | fail)
        all_goals
          have HB6 : Hid (Below w0.heap.size w0 w6) := Lib.hid (HB.out.drew.trans (hb6.mono HB.out.drew.size))
          clear hb6 s0 s1 s2 s3
          have HBF := Lib.hid (HB0.out.trans (HB6.out.mono HB0.out.size))
          go_wp2
          go_ret
          rw [HRF.out]
          exact ⟨rfl, HBF.out⟩
      · rw [hef] at HSK
        have HN2 := Lib.hid (HNX.out (of_decide_eq_true hef))
        clear hef
        go_wp2
        go_region_held3 (fun w' => w'.cell? ⟨w.heap.size, 0, none⟩ = some (.slice (some ad) ks.length k) ∧ w'.cell? ⟨w.heap.size + 1, 0, none⟩ = some (.slice (some bd) ls.length k') ∧ w'.cell? (ad.add j) = some (.slice A1 f.length c1) ∧ w'.cell? (bd.add j) = some (.slice B1 f2.length d1))
          (first | (refine ⟨?_, ?_, ?_, ?_⟩ <;> assumption) | go_keep)
          (first | (go_at_call 40; go_must (refine HSK.out.mono ?_; rintro e w6 ⟨rfl, hb6⟩; have s0 := cell_old p0 hb6.block; have s1 := cell_old r0 hb6.block; have s2 := cell_old hc' hb6.block; have s3 := cell_old hd' hb6.block)) | fail)
        all_goals
          have HB6 : Hid (Below w0.heap.size w0 w6) := Lib.hid (HB.out.drew.trans (hb6.mono HB.out.drew.size))
          clear hb6 s0 s1 s2 s3
          go_wp2
          go_roundw
          case rel => exact ⟨j + 1, by omega, by go_num, HN2.out, HB6.out⟩
          case measure => simp [intOf]; omega
    · obtain rfl : j = ks.length := by omega
      have HBF := Lib.hid (HB0.out.trans (HB.out.mono HB0.out.size))
      have HRT := Lib.hid (HYES.out (HI.out.2 ⟨ks_eq HLL.out HAL.out, HBE.out.1, HBE.out.2.1, HBE.out.2.2.1, HBE.out.2.2.2, HE0.out, HE1.out, HE2.out⟩))
      go_wp2
      go_ret
      rw [HRT.out]
      exact ⟨rfl, HBF.out⟩
end Go.Proofs.Ytlmlckidgfnhdaa.Sg
