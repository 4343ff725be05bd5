/-
  The reference's Number at any text.
-/
import Derived.Test.YtacfddlclbelmaaDoorDn
import Derived.Test.YtacfddlclbelmaaDoorPs
import Derived.Laws.Strings
namespace Go.Proofs.YtacfddlclbelmaaDoor.Nr
open Go.RowKit Go.ChangeShapes Go.WideShapes Go.Proofs.YtacfddlclbelmaaDoorW.PrintWords Go.Proofs.YtacfddlclbelmaaDoor.Ba Go.Proofs.YtacfddlclbelmaaDoor.Dn Go.Proofs.YtacfddlclbelmaaDoor.Ps
set_option linter.unusedVariables false
set_option linter.unusedSimpArgs false
set_option maxRecDepth 100000
set_option maxHeartbeats 8000000
theorem len_sz (T : ByteArray) : T.data.toList.length = T.size := by simp
theorem head_at (T : ByteArray) (h : 0 < T.size) : T.data.toList.head? = some T[0] := by
  have : T.data.toList = T[0] :: T.data.toList.drop 1 := by
    have := drop_at T 0 h
    rwa [List.drop_zero] at this
  rw [this]; rfl
theorem R1 {L : List UInt8} {T : ByteArray} (hB : bodyL L = T.data.toList) (h : T.size = 0 ∨ 19 < T.size ∨ (T.data.toList.head? = some 48 ∧ L ≠ [48])) : numR L = none := by
  have : badL L = true := by
    unfold badL
    rw [hB]
    rcases h with h | h | ⟨h, h2⟩
    · rw [decide_eq_true (show T.data.toList = [] from List.eq_nil_of_length_eq_zero (by rw [len_sz, h]))]; rfl
    · rw [decide_eq_true (show 19 < T.data.toList.length by rw [len_sz]; exact h), Bool.or_true]; rfl
    · rw [decide_eq_true h, decide_eq_true h2, Bool.and_true, Bool.or_true]
  unfold numR
  rw [if_pos this]
theorem R2 {L : List UInt8} {T : ByteArray} (hB : bodyL L = T.data.toList) (h0 : 0 < T.size) (h1 : T.size ≤ 19) (h2 : T.data.toList.head? ≠ some 48 ∨ L = [48]) : badL L = false := by
  unfold badL
  rw [hB, decide_eq_false (show ¬ T.data.toList = [] from fun e => by rw [← len_sz, e] at h0; simp at h0), decide_eq_false (show ¬ 19 < T.data.toList.length by rw [len_sz]; omega)]
  rcases h2 with h2 | h2
  · rw [decide_eq_false h2]; rfl
  · rw [decide_eq_false (show ¬ L ≠ [48] from fun e => e h2), Bool.and_false]; rfl
theorem R3 {L : List UInt8} {T : ByteArray} (hB : bodyL L = T.data.toList) (k : Nat) (hk : k < T.size) (h : isD T[k] = false) : numR L = none := by
  unfold numR
  split
  · rfl
  · rw [hB]
    have : T.data.toList.all isD = false := by
      rw [Bool.eq_false_iff]
      intro e
      have := List.all_eq_true.1 e T[k] (by
        have : T.data.toList[k]'(by rw [len_sz]; exact hk) ∈ T.data.toList := List.getElem_mem _
        exact this)
      rw [h] at this
      cases this
    rw [this]
    rfl
theorem R4 {L : List UInt8} {T : ByteArray} (hB : bodyL L = T.data.toList) (hb : badL L = false) (ha : T.data.toList.all isD = true) (g : Bool) (hg : negL L = g) : numR L = if g = true ∧ val 0 T.data.toList ≤ 9223372036854775808 then some (-(val 0 T.data.toList : Int)) else if g = false ∧ val 0 T.data.toList < 9223372036854775808 then some (val 0 T.data.toList : Int) else none := by
  unfold numR
  rw [if_neg (by rw [hb]; simp), hB, if_pos ha, hg]
theorem take_next (T : ByteArray) (k : Nat) (h : k < T.size) : T.data.toList.take (k + 1) = T.data.toList.take k ++ [T[k]] := by
  rw [List.take_add_one, List.getElem?_eq_getElem (by rw [len_sz]; exact h)]
  rfl
theorem body_pos {c : UInt8} {r : List UInt8} (h : c ≠ 45) : bodyL (c :: r) = c :: r ∧ negL (c :: r) = false := by
  unfold bodyL negL
  constructor
  · split
    · rename_i x heq
      injection heq with heq _
      exact absurd heq h
    · rfl
  · split
    · rename_i x heq
      injection heq with heq _
      exact absurd heq h
    · rfl
theorem eq_list (s : ByteArray) (l : List UInt8) : (s.toList == l) = decide (s.data.toList = l) := by
  rw [ByteArray.toList_eq]
  by_cases h : s.data.toList = l
  · rw [h]; simp
  · rw [decide_eq_false h]; exact beq_eq_false_iff_ne.2 h
theorem number40 (s : ByteArray) (hs : s.size ≤ 281474976710656) (w : World) : Calls Tryd.prog 40 #[.string s] w fun e w' => (∃ x, e = .returned (.tuple #[.int .i64 x, .bool (numR s.data.toList).isSome]) ∧ ∀ v, numR s.data.toList = some v → x = v) ∧ w = w' := by
  have HF : Hid (numR s.data.toList = none → (∃ x : Int, Ending.returned (.tuple #[.int .i64 0, .bool false]) = .returned (.tuple #[.int .i64 x, .bool (numR s.data.toList).isSome]) ∧ ∀ v, numR s.data.toList = some v → x = v)) := Lib.hid (fun h => by rw [h]; exact ⟨0, rfl, (fun v hv => by cases hv)⟩)
  have HG : Hid (∀ u : Int, numR s.data.toList = some u → (∃ x : Int, Ending.returned (.tuple #[.int .i64 u, .bool true]) = .returned (.tuple #[.int .i64 x, .bool (numR s.data.toList).isSome]) ∧ ∀ v, numR s.data.toList = some v → x = v)) := Lib.hid (fun u h => by rw [h]; exact ⟨u, rfl, (fun v hv => Option.some.inj hv)⟩)
  by_cases h0 : s.size = 0
  · have HN : Hid (numR s.data.toList = none) := Lib.hid (R1 (T := s) (by rw [List.eq_nil_of_length_eq_zero (show s.data.toList.length = 0 by rw [len_sz]; exact h0)]; rfl) (.inl h0))
    have hem : s.toList = [] := by rw [ByteArray.toList_eq]; exact List.eq_nil_of_length_eq_zero (by rw [len_sz]; exact h0)
    go_enter Tryd.func40, Tryd.ntmps40
    go_wp2
    go_ret2
    exact ⟨HF.out HN.out, by first | rfl | trivial⟩
  · have hpos : 0 < s.size := by omega
    have hcons : s.data.toList = s[0] :: s.data.toList.drop 1 := by
      have := drop_at s 0 hpos
      rwa [List.drop_zero] at this
    have HS48 : Hid (∀ b, decide (s.data.toList = [48]) = b → (s.toList == [48]) = b) := Lib.hid (fun b h => by rw [eq_list]; exact h)
    by_cases h45 : s[0] = 45
    · have k45 : ((s[0].toNat : Int) == 45) = true := by rw [h45]; rfl
      obtain ⟨T, hT⟩ : ∃ T, s.extract 1 s.size = T := ⟨_, rfl⟩
      have HBD : Hid (bodyL s.data.toList = T.data.toList) := Lib.hid (by rw [← hT, hcons, h45]; show s.data.toList.drop 1 = _; rw [ByteArray.data_extract]; simp; rw [List.take_of_length_le (by simp)])
      have HNG : Hid (negL s.data.toList = true) := Lib.hid (by rw [hcons, h45]; rfl)
      clear hcons
      by_cases t0 : T.size = 0
      · have hem : T.toList = [] := by rw [ByteArray.toList_eq]; exact List.eq_nil_of_length_eq_zero (by rw [len_sz]; exact t0)
        have HN := Lib.hid (R1 HBD.out (.inl t0))
        go_enter Tryd.func40, Tryd.ntmps40
        go_wp2
        go_ret2
        exact ⟨HF.out HN.out, by first | rfl | trivial⟩
      · skip
        have tpos : 0 < T.size := by omega
        have tne : ¬ T.toList = [] := by rw [ByteArray.toList_eq]; intro e; have := len_sz T; rw [e] at this; simp at this; omega
        have tie : T.toList.isEmpty = false := by cases hh : T.toList with | nil => exact absurd hh tne | cons a b => rfl
        have HHD := Lib.hid (head_at T tpos)
        by_cases t19 : 19 < T.size
        · have HN := Lib.hid (R1 HBD.out (.inr (.inl t19)))
          go_enter Tryd.func40, Tryd.ntmps40
          go_wp2
          go_ret2
          exact ⟨HF.out HN.out, by first | rfl | trivial⟩
        have t19' : T.size ≤ 19 := by omega
        by_cases tz : T[0] = 48 ∧ s.data.toList ≠ [48]
        · have HN := Lib.hid (R1 HBD.out (.inr (.inr ⟨by rw [HHD.out, tz.1], tz.2⟩)))
          have k48 : ((T[0].toNat : Int) == 48) = true := by rw [tz.1]; rfl
          have ks := HS48.out false (decide_eq_false tz.2)
          clear tz
          go_enter Tryd.func40, Tryd.ntmps40
          go_wp2
          go_ret2
          exact ⟨HF.out HN.out, by first | rfl | trivial⟩
        have HB2 : Hid (badL s.data.toList = false) := Lib.hid (R2 HBD.out tpos t19' (by
          rw [HHD.out]
          by_cases e : T[0] = 48
          · exact .inr (Classical.byContradiction fun h => tz ⟨e, h⟩)
          · exact .inl (fun h => e (Option.some.inj h))))
        obtain ⟨b48, hb48⟩ : ∃ b, ((T[0].toNat : Int) == 48) = b := ⟨_, rfl⟩
        obtain ⟨bs, hbs⟩ : ∃ b, (s.toList == [48]) = b := ⟨_, rfl⟩
        have hand : b48 = true → bs = true := by
          intro e
          rw [← hbs]
          refine HS48.out true (decide_eq_true (Classical.byContradiction fun h => tz ⟨?_, h⟩))
          rw [e] at hb48
          have := eq_of_beq hb48
          exact UInt8.toNat_inj.1 (by rw [show (48 : UInt8).toNat = 48 from rfl]; omega)
        have HAND := Lib.hid hand
        clear tz hand t19
        cases b48
        · clear HAND
          go_enter Tryd.func40, Tryd.ntmps40
          go_wp2
          go_loopw [6, 38] (fun x i wr => ∃ k n : Nat, k ≤ T.size ∧ i = .int .i64 (k : Int) ∧ x = .int .u64 (n : Int) ∧ n = val 0 (T.data.toList.take k) ∧ (T.data.toList.take k).all isD = true ∧ n < 10 ^ k ∧ wr = w) (fun _ i _ => T.size - (intOf i).toNat)
          case atStart => exact ⟨0, 0, by omega, rfl, rfl, by simp [val], by simp, by simp, rfl⟩
          case round =>
            obtain ⟨k, n, hk, rfl, rfl, hn, ha, hlt, rfl⟩ := hrel
            have HVN := Lib.hid hn
            have HA := Lib.hid ha
            have HLT := Lib.hid hlt
            have hn19 : n < 10000000000000000000 := Nat.lt_of_lt_of_le hlt (Nat.le_trans (Nat.pow_le_pow_right (by omega) (show k ≤ 19 by omega)) (by decide))
            clear hn ha hlt
            by_cases hkt : k < T.size
            · have hn18 : n < 1000000000000000000 := Nat.lt_of_lt_of_le HLT.out (Nat.le_trans (Nat.pow_le_pow_right (by omega) (show k ≤ 18 by omega)) (by decide))
              have HR3 := Lib.hid (R3 HBD.out k hkt)
              have HTN := Lib.hid (take_next T k hkt)
              have hc256 : T[k].toNat < 256 := UInt8.toNat_lt _
              obtain ⟨c, hc⟩ : ∃ c, T[k] = c := ⟨_, rfl⟩
              rw [hc] at HR3 HTN hc256
              by_cases c0 : c.toNat < 48
              · have HD : Hid (isD c = false) := Lib.hid (decide_eq_false (by omega))
                have c0' : ((c.toNat : Nat) : Int) < 48 := by omega
                go_wp2
                go_ret2
                exact ⟨HF.out (HR3.out HD.out), by first | rfl | trivial⟩
              · by_cases c1 : 57 < c.toNat
                · have HD : Hid (isD c = false) := Lib.hid (decide_eq_false (by omega))
                  have c1' : 57 < ((c.toNat : Nat) : Int) := by omega
                  have c0' : 48 ≤ ((c.toNat : Nat) : Int) := by omega
                  go_wp2
                  go_ret2
                  exact ⟨HF.out (HR3.out HD.out), by first | rfl | trivial⟩
                · have HD : Hid (isD c = true) := Lib.hid (decide_eq_true ⟨by omega, by omega⟩)
                  have c0' : 48 ≤ ((c.toNat : Nat) : Int) := by omega
                  have c1' : ((c.toNat : Nat) : Int) ≤ 57 := by omega
                  have w1 : IntKind.u64.wrap (10 * (n : Int)) = 10 * (n : Int) := by rw [IntKind.wrap_u64]; omega
                  have w2 : IntKind.u64.wrap (10 * (n : Int) + (((c.toNat : Nat) : Int) - 48)) = 10 * (n : Int) + (((c.toNat : Nat) : Int) - 48) := by rw [IntKind.wrap_u64]; omega
                  go_wp2
                  go_roundw
                  case rel =>
                    refine ⟨k + 1, 10 * n + (c.toNat - 48), by omega, by go_num, by congr 1; omega, ?_, ?_, ?_, by first | rfl | trivial⟩
                    · rw [HTN.out, val_snoc, ← HVN.out]
                    · rw [HTN.out, List.all_append, HA.out]
                      simp [HD.out]
                    · have := HLT.out
                      rw [Nat.pow_succ]
                      omega
                  case measure => simp [intOf]; omega
            · have hke : k = T.size := by omega
              have HV : Hid (n = val 0 T.data.toList) := Lib.hid (by rw [HVN.out, hke, List.take_of_length_le (by rw [len_sz]; exact Nat.le_refl _)])
              have HAL : Hid (T.data.toList.all isD = true) := Lib.hid (by have := HA.out; rwa [hke, List.take_of_length_le (by rw [len_sz]; exact Nat.le_refl _)] at this)
              have HR4 := Lib.hid (R4 HBD.out HB2.out HAL.out true HNG.out)
              rw [← HV.out] at HR4
              clear hke
              by_cases hn63 : n ≤ 9223372036854775808
              · have HX : Hid (numR s.data.toList = some (-(n : Int))) := Lib.hid (by rw [HR4.out, if_pos ⟨rfl, hn63⟩])
                have hcast : (n : Int) ≤ 9223372036854775808 := by omega
                have w3 : wrap64 (IntKind.u64.wrap (-(n : Int))) = -(n : Int) := by rw [IntKind.wrap_u64]; unfold wrap64; omega
                go_wp2
                go_ret2
                exact ⟨HG.out _ HX.out, by first | rfl | trivial⟩
              · have HX : Hid (numR s.data.toList = none) := Lib.hid (by rw [HR4.out, if_neg (by omega), if_neg (by simp)])
                have hcast : 9223372036854775808 < (n : Int) := by omega
                go_wp2
                go_ret2
                exact ⟨HF.out HX.out, by first | rfl | trivial⟩
        · obtain rfl := HAND.out rfl
          clear HAND
          go_enter Tryd.func40, Tryd.ntmps40
          go_wp2
          go_loopw [6, 38] (fun x i wr => ∃ k n : Nat, k ≤ T.size ∧ i = .int .i64 (k : Int) ∧ x = .int .u64 (n : Int) ∧ n = val 0 (T.data.toList.take k) ∧ (T.data.toList.take k).all isD = true ∧ n < 10 ^ k ∧ wr = w) (fun _ i _ => T.size - (intOf i).toNat)
          case atStart => exact ⟨0, 0, by omega, rfl, rfl, by simp [val], by simp, by simp, rfl⟩
          case round =>
            obtain ⟨k, n, hk, rfl, rfl, hn, ha, hlt, rfl⟩ := hrel
            have HVN := Lib.hid hn
            have HA := Lib.hid ha
            have HLT := Lib.hid hlt
            have hn19 : n < 10000000000000000000 := Nat.lt_of_lt_of_le hlt (Nat.le_trans (Nat.pow_le_pow_right (by omega) (show k ≤ 19 by omega)) (by decide))
            clear hn ha hlt
            by_cases hkt : k < T.size
            · have hn18 : n < 1000000000000000000 := Nat.lt_of_lt_of_le HLT.out (Nat.le_trans (Nat.pow_le_pow_right (by omega) (show k ≤ 18 by omega)) (by decide))
              have HR3 := Lib.hid (R3 HBD.out k hkt)
              have HTN := Lib.hid (take_next T k hkt)
              have hc256 : T[k].toNat < 256 := UInt8.toNat_lt _
              obtain ⟨c, hc⟩ : ∃ c, T[k] = c := ⟨_, rfl⟩
              rw [hc] at HR3 HTN hc256
              by_cases c0 : c.toNat < 48
              · have HD : Hid (isD c = false) := Lib.hid (decide_eq_false (by omega))
                have c0' : ((c.toNat : Nat) : Int) < 48 := by omega
                go_wp2
                go_ret2
                exact ⟨HF.out (HR3.out HD.out), by first | rfl | trivial⟩
              · by_cases c1 : 57 < c.toNat
                · have HD : Hid (isD c = false) := Lib.hid (decide_eq_false (by omega))
                  have c1' : 57 < ((c.toNat : Nat) : Int) := by omega
                  have c0' : 48 ≤ ((c.toNat : Nat) : Int) := by omega
                  go_wp2
                  go_ret2
                  exact ⟨HF.out (HR3.out HD.out), by first | rfl | trivial⟩
                · have HD : Hid (isD c = true) := Lib.hid (decide_eq_true ⟨by omega, by omega⟩)
                  have c0' : 48 ≤ ((c.toNat : Nat) : Int) := by omega
                  have c1' : ((c.toNat : Nat) : Int) ≤ 57 := by omega
                  have w1 : IntKind.u64.wrap (10 * (n : Int)) = 10 * (n : Int) := by rw [IntKind.wrap_u64]; omega
                  have w2 : IntKind.u64.wrap (10 * (n : Int) + (((c.toNat : Nat) : Int) - 48)) = 10 * (n : Int) + (((c.toNat : Nat) : Int) - 48) := by rw [IntKind.wrap_u64]; omega
                  go_wp2
                  go_roundw
                  case rel =>
                    refine ⟨k + 1, 10 * n + (c.toNat - 48), by omega, by go_num, by congr 1; omega, ?_, ?_, ?_, by first | rfl | trivial⟩
                    · rw [HTN.out, val_snoc, ← HVN.out]
                    · rw [HTN.out, List.all_append, HA.out]
                      simp [HD.out]
                    · have := HLT.out
                      rw [Nat.pow_succ]
                      omega
                  case measure => simp [intOf]; omega
            · have hke : k = T.size := by omega
              have HV : Hid (n = val 0 T.data.toList) := Lib.hid (by rw [HVN.out, hke, List.take_of_length_le (by rw [len_sz]; exact Nat.le_refl _)])
              have HAL : Hid (T.data.toList.all isD = true) := Lib.hid (by have := HA.out; rwa [hke, List.take_of_length_le (by rw [len_sz]; exact Nat.le_refl _)] at this)
              have HR4 := Lib.hid (R4 HBD.out HB2.out HAL.out true HNG.out)
              rw [← HV.out] at HR4
              clear hke
              by_cases hn63 : n ≤ 9223372036854775808
              · have HX : Hid (numR s.data.toList = some (-(n : Int))) := Lib.hid (by rw [HR4.out, if_pos ⟨rfl, hn63⟩])
                have hcast : (n : Int) ≤ 9223372036854775808 := by omega
                have w3 : wrap64 (IntKind.u64.wrap (-(n : Int))) = -(n : Int) := by rw [IntKind.wrap_u64]; unfold wrap64; omega
                go_wp2
                go_ret2
                exact ⟨HG.out _ HX.out, by first | rfl | trivial⟩
              · have HX : Hid (numR s.data.toList = none) := Lib.hid (by rw [HR4.out, if_neg (by omega), if_neg (by simp)])
                have hcast : 9223372036854775808 < (n : Int) := by omega
                go_wp2
                go_ret2
                exact ⟨HF.out HX.out, by first | rfl | trivial⟩
    · have k45 : ((s[0].toNat : Int) == 45) = false := by
        rw [beq_eq_false_iff_ne]
        intro e
        exact h45 (UInt8.toNat_inj.1 (by rw [show (45 : UInt8).toNat = 45 from rfl]; omega))
      have HBD : Hid (bodyL s.data.toList = s.data.toList) := Lib.hid (by rw [hcons]; exact (body_pos h45).1)
      have HNG : Hid (negL s.data.toList = false) := Lib.hid (by rw [hcons]; exact (body_pos h45).2)
      clear hcons
      have t0 : ¬ s.size = 0 := by omega
      have tpos : 0 < s.size := by omega
      have tne : ¬ s.toList = [] := by rw [ByteArray.toList_eq]; intro e; have := len_sz s; rw [e] at this; simp at this; omega
      have tie : s.toList.isEmpty = false := by cases hh : s.toList with | nil => exact absurd hh tne | cons a b => rfl
      have HHD := Lib.hid (head_at s tpos)
      by_cases t19 : 19 < s.size
      · have HN := Lib.hid (R1 HBD.out (.inr (.inl t19)))
        go_enter Tryd.func40, Tryd.ntmps40
        go_wp2
        go_ret2
        exact ⟨HF.out HN.out, by first | rfl | trivial⟩
      have t19' : s.size ≤ 19 := by omega
      by_cases tz : s[0] = 48 ∧ s.data.toList ≠ [48]
      · have HN := Lib.hid (R1 HBD.out (.inr (.inr ⟨by rw [HHD.out, tz.1], tz.2⟩)))
        have k48 : ((s[0].toNat : Int) == 48) = true := by rw [tz.1]; rfl
        have ks := HS48.out false (decide_eq_false tz.2)
        clear tz
        go_enter Tryd.func40, Tryd.ntmps40
        go_wp2
        go_ret2
        exact ⟨HF.out HN.out, by first | rfl | trivial⟩
      have HB2 : Hid (badL s.data.toList = false) := Lib.hid (R2 HBD.out tpos t19' (by
        rw [HHD.out]
        by_cases e : s[0] = 48
        · exact .inr (Classical.byContradiction fun h => tz ⟨e, h⟩)
        · exact .inl (fun h => e (Option.some.inj h))))
      obtain ⟨b48, hb48⟩ : ∃ b, ((s[0].toNat : Int) == 48) = b := ⟨_, rfl⟩
      obtain ⟨bs, hbs⟩ : ∃ b, (s.toList == [48]) = b := ⟨_, rfl⟩
      have hand : b48 = true → bs = true := by
        intro e
        rw [← hbs]
        refine HS48.out true (decide_eq_true (Classical.byContradiction fun h => tz ⟨?_, h⟩))
        rw [e] at hb48
        have := eq_of_beq hb48
        exact UInt8.toNat_inj.1 (by rw [show (48 : UInt8).toNat = 48 from rfl]; omega)
      have HAND := Lib.hid hand
      clear tz hand t19
      cases b48
      · clear HAND
        go_enter Tryd.func40, Tryd.ntmps40
        go_wp2
        go_loopw [6, 38] (fun x i wr => ∃ k n : Nat, k ≤ s.size ∧ i = .int .i64 (k : Int) ∧ x = .int .u64 (n : Int) ∧ n = val 0 (s.data.toList.take k) ∧ (s.data.toList.take k).all isD = true ∧ n < 10 ^ k ∧ wr = w) (fun _ i _ => s.size - (intOf i).toNat)
        case atStart => exact ⟨0, 0, by omega, rfl, rfl, by simp [val], by simp, by simp, rfl⟩
        case round =>
          obtain ⟨k, n, hk, rfl, rfl, hn, ha, hlt, rfl⟩ := hrel
          have HVN := Lib.hid hn
          have HA := Lib.hid ha
          have HLT := Lib.hid hlt
          have hn19 : n < 10000000000000000000 := Nat.lt_of_lt_of_le hlt (Nat.le_trans (Nat.pow_le_pow_right (by omega) (show k ≤ 19 by omega)) (by decide))
          clear hn ha hlt
          by_cases hkt : k < s.size
          · have hn18 : n < 1000000000000000000 := Nat.lt_of_lt_of_le HLT.out (Nat.le_trans (Nat.pow_le_pow_right (by omega) (show k ≤ 18 by omega)) (by decide))
            have HR3 := Lib.hid (R3 HBD.out k hkt)
            have HTN := Lib.hid (take_next s k hkt)
            have hc256 : s[k].toNat < 256 := UInt8.toNat_lt _
            obtain ⟨c, hc⟩ : ∃ c, s[k] = c := ⟨_, rfl⟩
            rw [hc] at HR3 HTN hc256
            by_cases c0 : c.toNat < 48
            · have HD : Hid (isD c = false) := Lib.hid (decide_eq_false (by omega))
              have c0' : ((c.toNat : Nat) : Int) < 48 := by omega
              go_wp2
              go_ret2
              exact ⟨HF.out (HR3.out HD.out), by first | rfl | trivial⟩
            · by_cases c1 : 57 < c.toNat
              · have HD : Hid (isD c = false) := Lib.hid (decide_eq_false (by omega))
                have c1' : 57 < ((c.toNat : Nat) : Int) := by omega
                have c0' : 48 ≤ ((c.toNat : Nat) : Int) := by omega
                go_wp2
                go_ret2
                exact ⟨HF.out (HR3.out HD.out), by first | rfl | trivial⟩
              · have HD : Hid (isD c = true) := Lib.hid (decide_eq_true ⟨by omega, by omega⟩)
                have c0' : 48 ≤ ((c.toNat : Nat) : Int) := by omega
                have c1' : ((c.toNat : Nat) : Int) ≤ 57 := by omega
                have w1 : IntKind.u64.wrap (10 * (n : Int)) = 10 * (n : Int) := by rw [IntKind.wrap_u64]; omega
                have w2 : IntKind.u64.wrap (10 * (n : Int) + (((c.toNat : Nat) : Int) - 48)) = 10 * (n : Int) + (((c.toNat : Nat) : Int) - 48) := by rw [IntKind.wrap_u64]; omega
                go_wp2
                go_roundw
                case rel =>
                  refine ⟨k + 1, 10 * n + (c.toNat - 48), by omega, by go_num, by congr 1; omega, ?_, ?_, ?_, by first | rfl | trivial⟩
                  · rw [HTN.out, val_snoc, ← HVN.out]
                  · rw [HTN.out, List.all_append, HA.out]
                    simp [HD.out]
                  · have := HLT.out
                    rw [Nat.pow_succ]
                    omega
                case measure => simp [intOf]; omega
          · have hke : k = s.size := by omega
            have HV : Hid (n = val 0 s.data.toList) := Lib.hid (by rw [HVN.out, hke, List.take_of_length_le (by rw [len_sz]; exact Nat.le_refl _)])
            have HAL : Hid (s.data.toList.all isD = true) := Lib.hid (by have := HA.out; rwa [hke, List.take_of_length_le (by rw [len_sz]; exact Nat.le_refl _)] at this)
            have HR4 := Lib.hid (R4 HBD.out HB2.out HAL.out false HNG.out)
            rw [← HV.out] at HR4
            clear hke
            by_cases hn63 : n < 9223372036854775808
            · have HX : Hid (numR s.data.toList = some (n : Int)) := Lib.hid (by rw [HR4.out, if_neg (by simp), if_pos ⟨rfl, hn63⟩])
              have hcast : (n : Int) < 9223372036854775808 := by omega
              have w3 : wrap64 (n : Int) = (n : Int) := by unfold wrap64; omega
              go_wp2
              go_ret2
              exact ⟨HG.out _ HX.out, by first | rfl | trivial⟩
            · have HX : Hid (numR s.data.toList = none) := Lib.hid (by rw [HR4.out, if_neg (by simp), if_neg (by omega)])
              obtain ⟨a, ha⟩ : ∃ a : Int, (n : Int) = a := ⟨_, rfl⟩
              have hcast : 9223372036854775808 ≤ a := by omega
              rw [ha]
              clear hn63 hn19 ha HLT
              go_wp2
              go_ret2
              exact ⟨HF.out HX.out, by first | rfl | trivial⟩
      · obtain rfl := HAND.out rfl
        clear HAND
        go_enter Tryd.func40, Tryd.ntmps40
        go_wp2
        go_loopw [6, 38] (fun x i wr => ∃ k n : Nat, k ≤ s.size ∧ i = .int .i64 (k : Int) ∧ x = .int .u64 (n : Int) ∧ n = val 0 (s.data.toList.take k) ∧ (s.data.toList.take k).all isD = true ∧ n < 10 ^ k ∧ wr = w) (fun _ i _ => s.size - (intOf i).toNat)
        case atStart => exact ⟨0, 0, by omega, rfl, rfl, by simp [val], by simp, by simp, rfl⟩
        case round =>
          obtain ⟨k, n, hk, rfl, rfl, hn, ha, hlt, rfl⟩ := hrel
          have HVN := Lib.hid hn
          have HA := Lib.hid ha
          have HLT := Lib.hid hlt
          have hn19 : n < 10000000000000000000 := Nat.lt_of_lt_of_le hlt (Nat.le_trans (Nat.pow_le_pow_right (by omega) (show k ≤ 19 by omega)) (by decide))
          clear hn ha hlt
          by_cases hkt : k < s.size
          · have hn18 : n < 1000000000000000000 := Nat.lt_of_lt_of_le HLT.out (Nat.le_trans (Nat.pow_le_pow_right (by omega) (show k ≤ 18 by omega)) (by decide))
            have HR3 := Lib.hid (R3 HBD.out k hkt)
            have HTN := Lib.hid (take_next s k hkt)
            have hc256 : s[k].toNat < 256 := UInt8.toNat_lt _
            obtain ⟨c, hc⟩ : ∃ c, s[k] = c := ⟨_, rfl⟩
            rw [hc] at HR3 HTN hc256
            by_cases c0 : c.toNat < 48
            · have HD : Hid (isD c = false) := Lib.hid (decide_eq_false (by omega))
              have c0' : ((c.toNat : Nat) : Int) < 48 := by omega
              go_wp2
              go_ret2
              exact ⟨HF.out (HR3.out HD.out), by first | rfl | trivial⟩
            · by_cases c1 : 57 < c.toNat
              · have HD : Hid (isD c = false) := Lib.hid (decide_eq_false (by omega))
                have c1' : 57 < ((c.toNat : Nat) : Int) := by omega
                have c0' : 48 ≤ ((c.toNat : Nat) : Int) := by omega
                go_wp2
                go_ret2
                exact ⟨HF.out (HR3.out HD.out), by first | rfl | trivial⟩
              · have HD : Hid (isD c = true) := Lib.hid (decide_eq_true ⟨by omega, by omega⟩)
                have c0' : 48 ≤ ((c.toNat : Nat) : Int) := by omega
                have c1' : ((c.toNat : Nat) : Int) ≤ 57 := by omega
                have w1 : IntKind.u64.wrap (10 * (n : Int)) = 10 * (n : Int) := by rw [IntKind.wrap_u64]; omega
                have w2 : IntKind.u64.wrap (10 * (n : Int) + (((c.toNat : Nat) : Int) - 48)) = 10 * (n : Int) + (((c.toNat : Nat) : Int) - 48) := by rw [IntKind.wrap_u64]; omega
                go_wp2
                go_roundw
                case rel =>
                  refine ⟨k + 1, 10 * n + (c.toNat - 48), by omega, by go_num, by congr 1; omega, ?_, ?_, ?_, by first | rfl | trivial⟩
                  · rw [HTN.out, val_snoc, ← HVN.out]
                  · rw [HTN.out, List.all_append, HA.out]
                    simp [HD.out]
                  · have := HLT.out
                    rw [Nat.pow_succ]
                    omega
                case measure => simp [intOf]; omega
          · have hke : k = s.size := by omega
            have HV : Hid (n = val 0 s.data.toList) := Lib.hid (by rw [HVN.out, hke, List.take_of_length_le (by rw [len_sz]; exact Nat.le_refl _)])
            have HAL : Hid (s.data.toList.all isD = true) := Lib.hid (by have := HA.out; rwa [hke, List.take_of_length_le (by rw [len_sz]; exact Nat.le_refl _)] at this)
            have HR4 := Lib.hid (R4 HBD.out HB2.out HAL.out false HNG.out)
            rw [← HV.out] at HR4
            clear hke
            by_cases hn63 : n < 9223372036854775808
            · have HX : Hid (numR s.data.toList = some (n : Int)) := Lib.hid (by rw [HR4.out, if_neg (by simp), if_pos ⟨rfl, hn63⟩])
              have hcast : (n : Int) < 9223372036854775808 := by omega
              have w3 : wrap64 (n : Int) = (n : Int) := by unfold wrap64; omega
              go_wp2
              go_ret2
              exact ⟨HG.out _ HX.out, by first | rfl | trivial⟩
            · have HX : Hid (numR s.data.toList = none) := Lib.hid (by rw [HR4.out, if_neg (by simp), if_neg (by omega)])
              obtain ⟨a, ha⟩ : ∃ a : Int, (n : Int) = a := ⟨_, rfl⟩
              have hcast : 9223372036854775808 ≤ a := by omega
              rw [ha]
              clear hn63 hn19 ha HLT
              go_wp2
              go_ret2
              exact ⟨HF.out HX.out, by first | rfl | trivial⟩
end Go.Proofs.YtacfddlclbelmaaDoor.Nr
