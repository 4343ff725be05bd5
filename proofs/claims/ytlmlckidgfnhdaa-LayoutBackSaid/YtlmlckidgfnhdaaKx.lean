/- Types: may it be, in a row; light; small reckonings. -/
import Derived.Test.YtlmlckidgfnhdaaKw
namespace Go.Proofs.Ytlmlckidgfnhdaa.Kx
open Go.RowKit Go.ChangeShapes Go.WideShapes Go.Proofs.YtlmlckidgfnhdaaW.PrintWords Go.Proofs.Ytlmlckidgfnhdaa.Ba Go.Proofs.Ytlmlckidgfnhdaa.Kw
set_option linter.unusedVariables false
set_option maxHeartbeats 4000000 in
theorem rkwords_any (A : Option Addr) (c : Nat) (l : List Int) (w : World) (h : Rd w A l) : Calls Try.prog 43 #[.agg #[.slice A l.length c]] w (IntPost (kW l) w) := by
  have HR := Lib.hid h
  have HB := Lib.hid ((Below.refl w.heap.size w).alloc (Nat.le_refl _) (.cells #[.slice A l.length c] 54))
  clear h
  by_cases h0 : l.length = 0
  · have e : kW l = 0 := by unfold kW; rw [if_pos h0]
    rw [e, h0]
    rw [h0] at HB
    clear e
    go_enter Try.func43, Try.ntmps43
    go_wp2
    go_ret
    exact ⟨rfl, HB.out⟩
  by_cases h15 : 15 < l.length
  · have e : kW l = 0 := by unfold kW; rw [if_neg h0, if_pos h15]
    rw [e]
    clear e
    go_enter Try.func43, Try.ntmps43
    go_wp2
    go_ret
    exact ⟨rfl, HB.out⟩
  have HE : Hid (kW l = if l.all (fun f => decide (fw f ≠ 0)) then 1 + sw l else 0) := Lib.hid (by unfold kW; rw [if_neg h0, if_neg h15])
  go_enter Try.func43, Try.ntmps43
  go_wp2
  go_loopw [3, 19] (fun n i wr => ∃ k : Nat, k ≤ l.length ∧ i = .int .i64 (k : Int) ∧ n = .int .i64 (1 + sw (l.take k)) ∧ (l.take k).all (fun f => decide (fw f ≠ 0)) = true ∧ Below w.heap.size w wr) (fun _ i _ => l.length - (intOf i).toNat)
  case atStart => exact ⟨0, by omega, rfl, rfl, rfl, HB.out⟩
  case round =>
    obtain ⟨k, hk, rfl, rfl, hall, hb⟩ := hrel
    have HAL := Lib.hid hall
    have HB4 := Lib.hid hb
    clear hall
    by_cases hlt : k < l.length
    · obtain ⟨ad, rfl, hc⟩ := HR.out.below hb.block k hlt
      have HS := Lib.hid (all_take_snoc (d := (0 : Int)) HAL.out hlt)
      have HN := Lib.hid (all_no (p := fun f => decide (fw f ≠ 0)) (l := l) (d := (0 : Int)) (k := k))
      have HW := Lib.hid (show sw (l.take (k + 1)) = sw (l.take k) + fw (l.getD k 0) by rw [take_snoc l 0 k hlt, sw_snoc])
      obtain ⟨f, hf⟩ : ∃ f, l.getD k 0 = f := ⟨_, rfl⟩
      rw [hf] at hc HS HN HW
      have hsb := sw_b (l.take k)
      rw [List.length_take_of_le hk] at hsb
      obtain ⟨s, hs⟩ : ∃ s, sw (l.take k) = s := ⟨_, rfl⟩
      rw [hs] at hsb HW
      rw [hs]
      have a1 : IntKind.i64.wrap (1 + s + 1) = 1 + s + 1 := Go.IntWalk.i64_in _ (by omega)
      have a2 : IntKind.i64.wrap (1 + s + 2) = 1 + s + 2 := Go.IntWalk.i64_in _ (by omega)
      clear hb hf hs
      by_cases f1 : f = 1
      · subst f1
        have HSD : Hid ((l.take (k + 1)).all (fun f => decide (fw f ≠ 0)) = true) := Lib.hid (by rw [HS.out]; decide)
        have HW2 : Hid (sw (l.take (k + 1)) = s + 1) := HW
        clear HS HN HW
        go_wp2
        go_roundw
        case rel => exact ⟨k + 1, by omega, by go_num, by first | (rw [HW2.out, a1, Int.add_assoc]) | (rw [HW2.out, Int.add_assoc]), HSD.out, HB4.out⟩
        case measure => simp [intOf]; omega
      by_cases f3 : f = 3
      · subst f3
        have HSD : Hid ((l.take (k + 1)).all (fun f => decide (fw f ≠ 0)) = true) := Lib.hid (by rw [HS.out]; decide)
        have HW2 : Hid (sw (l.take (k + 1)) = s + 1) := HW
        clear HS HN HW
        go_wp2
        go_roundw
        case rel => exact ⟨k + 1, by omega, by go_num, by first | (rw [HW2.out, a1, Int.add_assoc]) | (rw [HW2.out, Int.add_assoc]), HSD.out, HB4.out⟩
        case measure => simp [intOf]; omega
      by_cases f2 : f = 2
      · subst f2
        have HSD : Hid ((l.take (k + 1)).all (fun f => decide (fw f ≠ 0)) = true) := Lib.hid (by rw [HS.out]; decide)
        have HW2 : Hid (sw (l.take (k + 1)) = s + 2) := HW
        clear HS HN HW
        go_wp2
        go_roundw
        case rel => exact ⟨k + 1, by omega, by go_num, by first | (rw [HW2.out, a2, Int.add_assoc]) | (rw [HW2.out, Int.add_assoc]), HSD.out, HB4.out⟩
        case measure => simp [intOf]; omega
      have hz : fw f = 0 := by unfold fw; rw [if_neg f1, if_neg f3, if_neg f2]
      have c1 : (f == 1) = false := beq_eq_false_iff_ne.2 f1
      have c2 : (f == 2) = false := beq_eq_false_iff_ne.2 f2
      have c3 : (f == 3) = false := beq_eq_false_iff_ne.2 f3
      have HEE : Hid (kW l = 0) := Lib.hid (by rw [HE.out, HN.out (by simp [hz]) hlt]; rfl)
      clear f1 f2 f3 hz HS HN HW
      go_wp2
      go_ret
      rw [HEE.out]
      exact ⟨rfl, HB4.out⟩
    · obtain rfl : k = l.length := by omega
      have HEE : Hid (kW l = 1 + sw l) := Lib.hid (by
        have := HAL.out
        rw [List.take_length] at this
        rw [HE.out, this]; rfl)
      rw [List.take_length]
      clear hb
      go_wp2
      go_ret
      rw [HEE.out]
      exact ⟨rfl, HB4.out⟩
theorem kmay_any (A : Option Addr) (c : Nat) (l : List Int) (w : World) (h : Rd w A l) : Calls Try.prog 48 #[.agg #[.slice A l.length c]] w (BoolPost (kM l) w) := by
  have hb := (Below.refl w.heap.size w).alloc (Nat.le_refl _) (.cells #[.slice A l.length c] 54)
  have HK := Lib.hid (kwords_any A c l _ (h.below hb.block))
  have HB := Lib.hid hb
  have hM : kM l = (decide (0 < kW l) && decide (kW l ≤ 16)) := rfl
  have hbd := kW_b l
  rw [hM]
  obtain ⟨n, hn⟩ : ∃ n, kW l = n := ⟨_, rfl⟩
  rw [hn] at HK hbd ⊢
  clear h hb hn hM
  by_cases h0 : 0 < n
  · by_cases h16 : n ≤ 16
    · have e0 : (decide (0 < n) && decide (n ≤ 16)) = true := by simp [h0, h16]
      rw [e0]
      clear e0
      go_enter Try.func48, Try.ntmps48
      go_wp2_with fail
      refine HK.out.mono ?_
      rintro e w1 ⟨rfl, hb1⟩
      have HB1 := Lib.hid (HB.out.trans (hb1.mono HB.out.size))
      clear hb1
      go_wp2
      go_ret
      exact ⟨rfl, HB1.out⟩
    · have e0 : (decide (0 < n) && decide (n ≤ 16)) = false := by simp [h0, h16]
      rw [e0]
      clear e0
      go_enter Try.func48, Try.ntmps48
      go_wp2_with fail
      refine HK.out.mono ?_
      rintro e w1 ⟨rfl, hb1⟩
      have HB1 := Lib.hid (HB.out.trans (hb1.mono HB.out.size))
      clear hb1
      go_wp2
      go_ret
      exact ⟨by show Ending.returned (.bool (decide (n ≤ 16))) = _; rw [decide_eq_false (by omega)], HB1.out⟩
  · have e0 : (decide (0 < n) && decide (n ≤ 16)) = false := by simp [h0]
    have d0 : decide (0 < n) = false := by simp [h0]
    rw [e0]
    clear e0
    go_enter Try.func48, Try.ntmps48
    go_wp2_with fail
    refine HK.out.mono ?_
    rintro e w1 ⟨rfl, hb1⟩
    have HB1 := Lib.hid (HB.out.trans (hb1.mono HB.out.size))
    clear hb1
    go_wp2
    go_ret
    exact ⟨rfl, HB1.out⟩
theorem rkmay_any (A : Option Addr) (c : Nat) (l : List Int) (w : World) (h : Rd w A l) : Calls Try.prog 30 #[.agg #[.slice A l.length c]] w (BoolPost (kM l) w) := by
  have hb := (Below.refl w.heap.size w).alloc (Nat.le_refl _) (.cells #[.slice A l.length c] 54)
  have HK := Lib.hid (rkwords_any A c l _ (h.below hb.block))
  have HB := Lib.hid hb
  have hM : kM l = (decide (0 < kW l) && decide (kW l ≤ 16)) := rfl
  have hbd := kW_b l
  rw [hM]
  obtain ⟨n, hn⟩ : ∃ n, kW l = n := ⟨_, rfl⟩
  rw [hn] at HK hbd ⊢
  clear h hb hn hM
  by_cases h0 : 0 < n
  · by_cases h16 : n ≤ 16
    · have e0 : (decide (0 < n) && decide (n ≤ 16)) = true := by simp [h0, h16]
      rw [e0]
      clear e0
      go_enter Try.func30, Try.ntmps30
      go_wp2_with fail
      refine HK.out.mono ?_
      rintro e w1 ⟨rfl, hb1⟩
      have HB1 := Lib.hid (HB.out.trans (hb1.mono HB.out.size))
      clear hb1
      go_wp2
      go_ret
      exact ⟨rfl, HB1.out⟩
    · have e0 : (decide (0 < n) && decide (n ≤ 16)) = false := by simp [h0, h16]
      rw [e0]
      clear e0
      go_enter Try.func30, Try.ntmps30
      go_wp2_with fail
      refine HK.out.mono ?_
      rintro e w1 ⟨rfl, hb1⟩
      have HB1 := Lib.hid (HB.out.trans (hb1.mono HB.out.size))
      clear hb1
      go_wp2
      go_ret
      exact ⟨by show Ending.returned (.bool (decide (n ≤ 16))) = _; rw [decide_eq_false (by omega)], HB1.out⟩
  · have e0 : (decide (0 < n) && decide (n ≤ 16)) = false := by simp [h0]
    have d0 : decide (0 < n) = false := by simp [h0]
    rw [e0]
    clear e0
    go_enter Try.func30, Try.ntmps30
    go_wp2_with fail
    refine HK.out.mono ?_
    rintro e w1 ⟨rfl, hb1⟩
    have HB1 := Lib.hid (HB.out.trans (hb1.mono HB.out.size))
    clear hb1
    go_wp2
    go_ret
    exact ⟨rfl, HB1.out⟩
theorem no_any (A : Option Addr) (c : Nat) (l : List Int) (w : World) (h : Rd w A l) : Calls Try.prog 47 #[.agg #[.slice A l.length c]] w (BoolPost (!kM l) w) := by
  have hb := (Below.refl w.heap.size w).alloc (Nat.le_refl _) (.cells #[.slice A l.length c] 54)
  have HK := Lib.hid (kmay_any A c l _ (h.below hb.block))
  have HB := Lib.hid hb
  clear h hb
  go_enter Try.func47, Try.ntmps47
  go_wp2_with fail
  refine HK.out.mono ?_
  rintro e w1 ⟨rfl, hb1⟩
  have HB1 := Lib.hid (HB.out.trans (hb1.mono HB.out.size))
  clear hb1
  go_wp2
  go_ret
  exact ⟨rfl, HB1.out⟩
/-- The index of the first type that may not be. -/
def firstNo (ks : List (List Int)) : Int := if ks.all kM then -1 else (ks.findIdx (fun k => !kM k) : Nat)
set_option maxHeartbeats 4000000 in
theorem contains_any (A : Option Addr) (c : Nat) (ks : List (List Int)) (w : World) (h : Ks w A ks) (hl : ks.length ≤ 16) : Calls Try.prog 46 #[.slice A ks.length c, .func (.func 47) #[] #[]] w (BoolPost (!ks.all kM) w) := by
  have HKS := Lib.hid h
  clear h
  have key : Calls Try.prog 56 #[.slice A ks.length c, .func (.func 47) #[] #[]] w (fun e w' => ∃ n : Int, e = .returned (.int .i64 n) ∧ (0 ≤ n ↔ ks.all kM = false) ∧ Below w.heap.size w w') := by
    go_enter Try.func56, Try.ntmps56
    go_wp2
    go_loopw [8] (fun i wr => ∃ k : Nat, k ≤ ks.length ∧ i = .int .i64 (k : Int) ∧ (ks.take k).all kM = true ∧ Below w.heap.size w wr) (fun i _ => ks.length - (intOf i).toNat)
    case atStart => exact ⟨0, by omega, rfl, rfl, Below.refl _ _⟩
    case round =>
      obtain ⟨k, hk, rfl, hall, hb⟩ := hrel
      have HAL := Lib.hid hall
      have HB4 := Lib.hid hb
      clear hall
      by_cases hlt : k < ks.length
      · obtain ⟨ad, rfl, A1, c1, hc, hl1, hr⟩ := HKS.out.old hb.block k hlt
        have HS := Lib.hid (all_take_snoc (d := ([] : List Int)) HAL.out hlt)
        have HN := Lib.hid (all_no (p := kM) (l := ks) (d := ([] : List Int)) (k := k))
        obtain ⟨f, hf⟩ : ∃ f, ks.getD k [] = f := ⟨_, rfl⟩
        rw [hf] at hc HS HN hr hl1
        have HK := Lib.hid (no_any A1 c1 f wr hr)
        clear hb hf hr
        cases em : kM f
        · rw [em] at HK
          have HAF : Hid (ks.all kM = false) := Lib.hid (HN.out em hlt)
          clear em HS HN
          go_wp2_with fail
          refine HK.out.mono ?_
          rintro e w1 ⟨rfl, hb1⟩
          have HB1 := Lib.hid (HB4.out.trans (hb1.mono HB4.out.size))
          clear hb1
          go_wp2
          go_ret
          exact ⟨_, rfl, ⟨fun _ => HAF.out, fun _ => by omega⟩, HB1.out⟩
        · rw [em] at HK
          have HSD := Lib.hid (HS.out.trans em)
          clear em HS HN
          go_wp2_with fail
          refine HK.out.mono ?_
          rintro e w1 ⟨rfl, hb1⟩
          have HB1 := Lib.hid (HB4.out.trans (hb1.mono HB4.out.size))
          clear hb1
          go_wp2
          go_roundw
          case rel => exact ⟨k + 1, by omega, by go_num, HSD.out, HB1.out⟩
          case measure => simp [intOf]; omega
      · obtain rfl : k = ks.length := by omega
        have HAA : Hid (ks.all kM = true) := Lib.hid (by have := HAL.out; rw [List.take_length] at this; exact this)
        clear hb
        go_wp2
        go_ret
        exact ⟨_, rfl, ⟨fun h => by omega, fun h => by rw [HAA.out] at h; cases h⟩, HB4.out⟩
  have HK := Lib.hid key
  clear key
  go_enter Try.func46, Try.ntmps46
  go_wp2_with fail
  refine HK.out.mono ?_
  rintro e w1 ⟨n, rfl, hn, hb1⟩
  cases em : ks.all kM
  · have h0 : 0 ≤ n := hn.2 em
    have HEM := Lib.hid em
    clear em hn
    go_wp2
    go_ret
    rw [HEM.out]
    exact ⟨rfl, hb1⟩
  · have HEM := Lib.hid em
    have h0 : n < 0 := by
      rcases Int.lt_or_le n 0 with h | h
      · exact h
      · have := hn.1 h; rw [em] at this; cases this
    clear em hn
    go_wp2
    go_ret
    rw [HEM.out]
    exact ⟨by show Ending.returned (.bool (decide (0 ≤ n))) = _; rw [decide_eq_false (by omega)]; rfl, hb1⟩
end Go.Proofs.Ytlmlckidgfnhdaa.Kx
