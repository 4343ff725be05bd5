/-
  The reference's texts of complex numbers: hex, Text, unhex, Parse.
-/
import Derived.Test.YtacfddlclbelmaaDoorFb
import Derived.Test.YtacfddlclbelmaaDoorPs
namespace Go.Proofs.YtacfddlclbelmaaDoor.Rp
open Go.RowKit Go.Proofs.YtacfddlclbelmaaDoor.Ba Go.Proofs.YtacfddlclbelmaaDoor.Vb Go.Proofs.YtacfddlclbelmaaDoor.Tx Go.Proofs.YtacfddlclbelmaaDoor.Ps Go.Proofs.YtacfddlclbelmaaDoor.Fb
set_option linter.unusedVariables false
set_option maxRecDepth 100000
set_option maxHeartbeats 4000000
set_option maxHeartbeats 4000000 in
theorem unhex_any (s : ByteArray) (hs : s.size = 16) (w : World) :
    Calls Tryd.prog 49 #[.string s] w fun e w' => e = .returned (wordV (wordFrom 0 s.data.toList)) ∧ w = w' := by
  go_enter Tryd.func49, Tryd.ntmps49
  go_wp2
  go_loop [4, 9] (fun v i => ∃ k x : Nat, k ≤ s.size ∧ i = .int .i64 (k : Int) ∧ v = .int .u64 (x : Int) ∧ x < 16 ^ k ∧ wordFrom x (s.data.toList.drop k) = wordFrom 0 s.data.toList) (fun _ i => s.size - (intOf i).toNat)
  case atStart => exact ⟨0, 0, by omega, rfl, rfl, by simp, by simp⟩
  case round =>
    obtain ⟨k, x, hk, rfl, rfl, hx, hw⟩ := hrel
    have HW := Lib.hid hw
    have HX := Lib.hid hx
    clear hw hx
    by_cases hlt : k < s.size
    · go_wp2
      · go_round
        case rel =>
          have h1 : 48 ≤ (s[k].toNat : Int) := by assumption
          have h2 : (s[k].toNat : Int) ≤ 57 := by assumption
          have hv : valB s[k] = some (s[k].toNat - 48) := if_pos ⟨by omega, by omega⟩
          refine ⟨k + 1, 16 * x + (s[k].toNat - 48), by omega, by go_num, ?_, pow_step _ _ _ HX.out (by omega), ?_⟩
          · rw [or_digit x k _ 48 (by omega) HX.out (by omega) (by omega)]
            congr 1; omega
          · rw [← word_step s k x _ hlt hv]; exact HW.out
        case measure => simp [intOf]; omega
      · go_round
        case rel =>
          have h0 : 57 < (s[k].toNat : Int) := by assumption
          have h1 : 97 ≤ (s[k].toNat : Int) := by assumption
          have h2 : (s[k].toNat : Int) ≤ 102 := by assumption
          have hv : valB s[k] = some (s[k].toNat - 87) := (if_neg (by omega)).trans (if_pos ⟨by omega, by omega⟩)
          refine ⟨k + 1, 16 * x + (s[k].toNat - 87), by omega, by go_num, ?_, pow_step _ _ _ HX.out (by omega), ?_⟩
          · rw [show (s[k].toNat : Int) - 97 + 10 = (s[k].toNat : Int) - 87 by omega, or_digit x k _ 87 (by omega) HX.out (by omega) (by omega)]
            congr 1; omega
          · rw [← word_step s k x _ hlt hv]; exact HW.out
        case measure => simp [intOf]; omega
      · go_ret2
        have h1 : 57 < (s[k].toNat : Int) := by assumption
        have h2 : 102 < (s[k].toNat : Int) := by assumption
        have hv : valB s[k] = none := (if_neg (by omega)).trans (if_neg (by omega))
        rw [← HW.out, word_stop s k x hlt hv]
        exact ⟨rfl, rfl⟩
      · go_ret2
        have h1 : 57 < (s[k].toNat : Int) := by assumption
        have h2 : (s[k].toNat : Int) < 97 := by assumption
        have hv : valB s[k] = none := (if_neg (by omega)).trans (if_neg (by omega))
        rw [← HW.out, word_stop s k x hlt hv]
        exact ⟨rfl, rfl⟩
      · go_ret2
        have h1 : (s[k].toNat : Int) < 48 := by assumption
        have hv : valB s[k] = none := (if_neg (by omega)).trans (if_neg (by omega))
        rw [← HW.out, word_stop s k x hlt hv]
        exact ⟨rfl, rfl⟩
    · go_wp2
      go_ret2
      have hz : k = s.size := by omega
      have he : s.data.toList.drop k = [] := List.drop_eq_nil_of_le (by simp; omega)
      rw [← HW.out, he]
      exact ⟨rfl, rfl⟩

set_option maxHeartbeats 2000000 in
theorem rparse_any (s : ByteArray) (w : World) :
    Calls Tryd.prog 39 #[.string s] w fun e w' => e = .returned (parseV s) ∧ w = w' := by
  by_cases h : s.size = 33
  · have h16 : 16 < s.size := by omega
    have hsz1 : (s.extract 0 16).size = 16 := by rw [ByteArray.size_extract]; omega
    have hsz2 : (s.extract 17 s.size).size = 16 := by rw [ByteArray.size_extract]; omega
    have hn : ((s.size : Int) != 33) = false := by rw [bne_eq_false_iff_eq]; omega
    have b16 : (16 : Int) ≤ (s.size : Int) := by omega
    have b17 : (17 : Int) ≤ (s.size : Int) := by omega
    by_cases hc : s.data.toList.getD 16 0 = 44
    · have hv : parseV s = match wordFrom 0 (s.data.toList.take 16), wordFrom 0 (s.data.toList.drop 17) with
        | some p, some q => .tuple #[.complex .f64 p q, .bool true]
        | _, _ => .tuple #[.complex .f64 0 0, .bool false] := by rw [parseV, if_pos h, if_pos hc]; rfl
      rw [hv]
      clear hv
      rw [get16 s h16] at hc
      have hc1 : ((s[16].toNat : Int) != 44) = false := by rw [bne_eq_false_iff_eq, hc]; rfl
      clear hc h
      rw [← take_extract, ← drop_extract]
      generalize ha : wordFrom 0 (s.extract 0 16).data.toList = A
      generalize hb : wordFrom 0 (s.extract 17 s.size).data.toList = B
      have c1 := unhex_any (s.extract 0 16) hsz1
      have c2 := unhex_any (s.extract 17 s.size) hsz2
      rw [ha] at c1
      rw [hb] at c2
      have C1 := Lib.hid c1
      have C2 := Lib.hid c2
      clear c1 c2 ha hb
      cases A with
      | none =>
        cases B with
        | none =>
          have c1 : ∀ w, Calls Tryd.prog 49 #[.string (s.extract 0 16)] w fun e w' => e = .returned (.tuple #[.int .u64 0, .bool false]) ∧ w = w' := C1.out
          have c2 : ∀ w, Calls Tryd.prog 49 #[.string (s.extract 17 s.size)] w fun e w' => e = .returned (.tuple #[.int .u64 0, .bool false]) ∧ w = w' := C2.out
          have D1 := Lib.hid c1
          have D2 := Lib.hid c2
          clear c1 c2 C1 C2
          go_enter Tryd.func39, Tryd.ntmps39
          go_wp2_with fail
          refine (D1.out _).mono ?_
          rintro e w' ⟨rfl, rfl⟩
          go_wp2_with fail
          refine (D2.out _).mono ?_
          rintro e w' ⟨rfl, rfl⟩
          go_wp2
          go_ret2
          exact ⟨rfl, rfl⟩
        | some B =>
          have c1 : ∀ w, Calls Tryd.prog 49 #[.string (s.extract 0 16)] w fun e w' => e = .returned (.tuple #[.int .u64 0, .bool false]) ∧ w = w' := C1.out
          have c2 : ∀ w, Calls Tryd.prog 49 #[.string (s.extract 17 s.size)] w fun e w' => e = .returned (.tuple #[.int .u64 (B : Int), .bool true]) ∧ w = w' := C2.out
          have D1 := Lib.hid c1
          have D2 := Lib.hid c2
          clear c1 c2 C1 C2
          go_enter Tryd.func39, Tryd.ntmps39
          go_wp2_with fail
          refine (D1.out _).mono ?_
          rintro e w' ⟨rfl, rfl⟩
          go_wp2_with fail
          refine (D2.out _).mono ?_
          rintro e w' ⟨rfl, rfl⟩
          go_wp2
          go_ret2
          exact ⟨rfl, rfl⟩
      | some A =>
        cases B with
        | none =>
          have c1 : ∀ w, Calls Tryd.prog 49 #[.string (s.extract 0 16)] w fun e w' => e = .returned (.tuple #[.int .u64 (A : Int), .bool true]) ∧ w = w' := C1.out
          have c2 : ∀ w, Calls Tryd.prog 49 #[.string (s.extract 17 s.size)] w fun e w' => e = .returned (.tuple #[.int .u64 0, .bool false]) ∧ w = w' := C2.out
          have D1 := Lib.hid c1
          have D2 := Lib.hid c2
          clear c1 c2 C1 C2
          go_enter Tryd.func39, Tryd.ntmps39
          go_wp2_with fail
          refine (D1.out _).mono ?_
          rintro e w' ⟨rfl, rfl⟩
          go_wp2_with fail
          refine (D2.out _).mono ?_
          rintro e w' ⟨rfl, rfl⟩
          go_wp2
          go_ret2
          exact ⟨rfl, rfl⟩
        | some B =>
          have c1 : ∀ w, Calls Tryd.prog 49 #[.string (s.extract 0 16)] w fun e w' => e = .returned (.tuple #[.int .u64 (A : Int), .bool true]) ∧ w = w' := C1.out
          have c2 : ∀ w, Calls Tryd.prog 49 #[.string (s.extract 17 s.size)] w fun e w' => e = .returned (.tuple #[.int .u64 (B : Int), .bool true]) ∧ w = w' := C2.out
          have D1 := Lib.hid c1
          have D2 := Lib.hid c2
          clear c1 c2 C1 C2
          go_enter Tryd.func39, Tryd.ntmps39
          go_wp2_with fail
          refine (D1.out _).mono ?_
          rintro e w' ⟨rfl, rfl⟩
          go_wp2_with fail
          refine (D2.out _).mono ?_
          rintro e w' ⟨rfl, rfl⟩
          go_wp2_with (go_at_call 19; refine (of19 _ _ _).mono ?_; rintro e w' ⟨rfl, rfl⟩)
          go_ret2
          exact ⟨rfl, rfl⟩
    · have hv : parseV s = .tuple #[.complex .f64 0 0, .bool false] := by rw [parseV, if_pos h, if_neg hc]
      rw [hv]
      clear hv
      rw [get16 s h16] at hc
      have hc1 : ((s[16].toNat : Int) != 44) = true := by
        rw [bne_iff_ne]
        intro e
        exact hc (UInt8.toNat_inj.1 (by rw [show (44 : UInt8).toNat = 44 from rfl]; omega))
      clear hc h
      go_enter Tryd.func39, Tryd.ntmps39
      go_wp2
      go_ret2
      exact ⟨rfl, rfl⟩
  · have hn : ((s.size : Int) != 33) = true := by rw [bne_iff_ne]; omega
    go_enter Tryd.func39, Tryd.ntmps39
    go_wp2
    go_ret2
    exact ⟨by rw [parseV, if_neg h]; rfl, rfl⟩

theorem cons_str (c : UInt8) (l : List UInt8) : (⟨#[c]⟩ : ByteArray) ++ (⟨l.toArray⟩ : ByteArray) = ⟨(c :: l).toArray⟩ := by
  apply ByteArray.ext
  rw [ByteArray.data_append]
  simp
theorem app_str (a b : List UInt8) : (⟨a.toArray⟩ : ByteArray) ++ (⟨b.toArray⟩ : ByteArray) = ⟨(a ++ b).toArray⟩ := by
  apply ByteArray.ext
  rw [ByteArray.data_append]
  simp
theorem hex_any (u : Nat) (hu : u < 18446744073709551616) (w : World) (h : Tz w) : Calls Tryd.prog 53 #[.int .u64 (u : Int)] w fun e w' => e = .returned (.string ⟨(hexB u).toArray⟩) ∧ Below w.heap.size w w' := by
  have HF := Lib.hid (fmt61 u hu w h)
  have HP := Lib.hid (pad_hex u hu)
  have HLN := Lib.hid (hexL_len u 15 (by simpa using hu))
  have HBL := Lib.hid (hexB_length u)
  obtain ⟨q, hq⟩ : ∃ q, hexB u = q := ⟨_, rfl⟩
  obtain ⟨p, hp⟩ : ∃ p, hexL u = p := ⟨_, rfl⟩
  rw [hq] at HP HBL ⊢
  rw [hp] at HP HF HLN
  clear h hq hp
  go_enter Tryd.func53, Tryd.ntmps53
  go_wp2_with fail
  refine HF.out.mono ?_
  rintro e w1 ⟨rfl, hb⟩
  have HB := Lib.hid hb
  clear hb
  go_wp2
  go_loopw [3] (fun x wr => ∃ l : List UInt8, x = .string ⟨l.toArray⟩ ∧ l.length ≤ 16 ∧ List.replicate (16 - l.length) 48 ++ l = q ∧ wr = w1) (fun x _ => match x with | .string s => 16 - s.size | _ => 0)
  case atStart => exact ⟨p, rfl, HLN.out, HP.out, rfl⟩
  case round =>
    obtain ⟨l, rfl, hl, hx, rfl⟩ := hrel
    have HX := Lib.hid hx
    have hcs := cons_str 48 l
    have hln : 1 + l.length ≤ 9223372036854775807 := by omega
    clear hx
    by_cases h16 : l.length = 16
    · have HE : Hid (l = q) := Lib.hid (by rw [← HX.out, h16]; rfl)
      go_wp2
      go_ret
      rw [← HE.out]
      exact ⟨rfl, HB.out⟩
    · have hlt : l.length < 16 := by omega
      go_wp2
      refine ⟨⟨48 :: l, rfl, by simp only [List.length_cons]; omega, ?_, trivial⟩, ?_⟩
      · rw [← HX.out, List.length_cons, show 16 - l.length = (16 - (l.length + 1)) + 1 by omega, List.replicate_succ', List.append_assoc]
        rfl
      · show 16 - (48 :: l).toArray.size < 16 - l.toArray.size
        simp only [List.size_toArray, List.length_cons]
        omega
theorem rtext_any (p q : Nat) (hp : p < 18446744073709551616) (hq : q < 18446744073709551616) (w : World) (h : Tz w) : Calls Tryd.prog 44 #[.complex .f64 p q] w fun e w' => e = .returned (.string ⟨(textB p q).toArray⟩) ∧ Below w.heap.size w w' := by
  have H1 := Lib.hid (fun (W : World) (h : Tz W) => hex_any p hp W h)
  have H2 := Lib.hid (fun (W : World) (h : Tz W) => hex_any q hq W h)
  have HT := Lib.hid h
  have e1 : (⟨(hexB p).toArray⟩ : ByteArray) ++ (⟨#[44]⟩ : ByteArray) = ⟨(hexB p ++ [44]).toArray⟩ := app_str (hexB p) [44]
  have e2 : (⟨(hexB p ++ [44]).toArray⟩ : ByteArray) ++ (⟨(hexB q).toArray⟩ : ByteArray) = ⟨(textB p q).toArray⟩ := by
    rw [app_str, List.append_assoc]; rfl
  have z1 : (⟨(hexB p).toArray⟩ : ByteArray).size = 16 := by show (hexB p).toArray.size = 16; simp [hexB_length]
  have z2 : (⟨(hexB p ++ [44]).toArray⟩ : ByteArray).size = 17 := by show (hexB p ++ [44]).toArray.size = 17; simp [hexB_length]
  have z3 : (⟨(hexB q).toArray⟩ : ByteArray).size = 16 := by show (hexB q).toArray.size = 16; simp [hexB_length]
  obtain ⟨A, hA⟩ : ∃ A : ByteArray, (⟨(hexB p).toArray⟩ : ByteArray) = A := ⟨_, rfl⟩
  obtain ⟨B, hB⟩ : ∃ B : ByteArray, (⟨(hexB p ++ [44]).toArray⟩ : ByteArray) = B := ⟨_, rfl⟩
  obtain ⟨C, hC⟩ : ∃ C : ByteArray, (⟨(hexB q).toArray⟩ : ByteArray) = C := ⟨_, rfl⟩
  obtain ⟨D, hD⟩ : ∃ D : ByteArray, (⟨(textB p q).toArray⟩ : ByteArray) = D := ⟨_, rfl⟩
  rw [hA] at H1 e1 z1
  rw [hB] at e1 e2 z2
  rw [hC] at H2 e2 z3
  rw [hD] at e2 ⊢
  clear h hA hB hC hD
  go_enter Tryd.func44, Tryd.ntmps44
  go_wp2_with (go_at_call 35; refine (words35 _ _ _).mono ?_; rintro e wx ⟨rfl, rfl⟩)
  refine (H1.out _ HT.out).mono ?_
  rintro e w1 ⟨rfl, hb1⟩
  have HB1 := Lib.hid hb1
  have HT1 := Lib.hid (HT.out.below hb1)
  clear hb1
  go_wp2_with fail
  refine (H2.out _ HT1.out).mono ?_
  rintro e w2 ⟨rfl, hb2⟩
  have HB2 := Lib.hid (HB1.out.trans (hb2.mono HB1.out.size))
  clear hb2
  go_wp2
  go_ret
  exact ⟨rfl, HB2.out⟩
end Go.Proofs.YtacfddlclbelmaaDoor.Rp
