/- Texts read back: word, Parse; a text is of one number alone. -/
import Derived.Test.YtacfddlclbelmaaDoorTx
namespace Go.Proofs.YtacfddlclbelmaaDoor.Ps
open Go.RowKit Go.Proofs.YtacfddlclbelmaaDoor.Ba Go.Proofs.YtacfddlclbelmaaDoor.Vb Go.Proofs.YtacfddlclbelmaaDoor.Tx
set_option linter.unusedVariables false
set_option maxRecDepth 100000
def valB (c : UInt8) : Option Nat := if 48 ≤ c.toNat ∧ c.toNat ≤ 57 then some (c.toNat - 48) else if 97 ≤ c.toNat ∧ c.toNat ≤ 102 then some (c.toNat - 87) else none
def wordFrom (w : Nat) : List UInt8 → Option Nat
  | [] => some w
  | c :: l => match valB c with
    | none => none
    | some d => wordFrom (16 * w + d) l
def wordV (o : Option Nat) : Value := match o with
  | some w => .tuple #[.int .u64 (w : Int), .bool true]
  | none => .tuple #[.int .u64 0, .bool false]
theorem or_digit (x k : Nat) (c e : Int) (hk : k ≤ 15) (hx : x < 16 ^ k) (h1 : 0 ≤ c - e) (h2 : c - e < 16) :
    Go.bits .or .u64 (IntKind.u64.wrap ((x : Int) * 16)) (c - e) = ((16 * x + (c - e).toNat : Nat) : Int) := by
  obtain ⟨d, hd⟩ := Int.eq_ofNat_of_zero_le h1
  rw [hd]
  have hb : x < 1152921504606846976 := Nat.lt_of_lt_of_le hx (Nat.le_trans (Nat.pow_le_pow_right (by omega) hk) (by decide))
  have hw : IntKind.u64.wrap ((x : Int) * 16) = ((16 * x : Nat) : Int) := by rw [IntKind.wrap_u64]; omega
  rw [hw, u64_or_nat (16 * x) d (by omega) (by omega), Int.toNat_natCast]
  have := Nat.two_pow_add_eq_or_of_lt (i := 4) (b := d) (by omega) x
  rw [show (2 ^ 4 : Nat) = 16 from rfl] at this
  rw [this]
theorem drop_at (s : ByteArray) (k : Nat) (h : k < s.size) : s.data.toList.drop k = s[k] :: s.data.toList.drop (k + 1) := by
  rw [List.drop_eq_getElem_cons (by simpa using h)]; rfl
theorem word_step (s : ByteArray) (k x d : Nat) (h : k < s.size) (hv : valB s[k] = some d) : wordFrom x (s.data.toList.drop k) = wordFrom (16 * x + d) (s.data.toList.drop (k + 1)) := by
  rw [drop_at s k h]; simp only [wordFrom, hv]
theorem word_stop (s : ByteArray) (k x : Nat) (h : k < s.size) (hv : valB s[k] = none) : wordFrom x (s.data.toList.drop k) = none := by
  rw [drop_at s k h]; simp only [wordFrom, hv]
theorem pow_step (x k d : Nat) (hx : x < 16 ^ k) (hd : d < 16) : 16 * x + d < 16 ^ (k + 1) := by
  rw [Nat.pow_succ]; omega
set_option maxHeartbeats 400000 in
theorem word_any (s : ByteArray) (hs : s.size ≤ 16) (w : World) :
    Calls Tryd.prog 47 #[.string s] w fun e w' => e = .returned (wordV (wordFrom 0 s.data.toList)) ∧ w = w' := by
  go_enter Tryd.func47, Tryd.ntmps47
  go_wp2
  go_loop [4, 9] (fun v i => ∃ k x : Nat, k ≤ s.size ∧ i = .int .i64 (k : Int) ∧ v = .int .u64 (x : Int) ∧ x < 16 ^ k ∧ wordFrom x (s.data.toList.drop k) = wordFrom 0 s.data.toList) (fun _ i => s.size - (intOf i).toNat)
  case atStart => exact ⟨0, 0, by omega, rfl, rfl, by simp, by simp⟩
  case round =>
    obtain ⟨k, x, hk, rfl, rfl, hx, hw⟩ := hrel
    have HW := Lib.hid hw
    have HX := Lib.hid hx
    clear hw hx
    by_cases hlt : k < s.size
    · go_wp2
      · go_round
        case rel =>
          have h1 : 48 ≤ (s[k].toNat : Int) := by assumption
          have h2 : (s[k].toNat : Int) ≤ 57 := by assumption
          have hv : valB s[k] = some (s[k].toNat - 48) := if_pos ⟨by omega, by omega⟩
          refine ⟨k + 1, 16 * x + (s[k].toNat - 48), by omega, by go_num, ?_, pow_step _ _ _ HX.out (by omega), ?_⟩
          · rw [or_digit x k _ 48 (by omega) HX.out (by omega) (by omega)]
            congr 1; omega
          · rw [← word_step s k x _ hlt hv]; exact HW.out
        case measure => simp [intOf]; omega
      · go_round
        case rel =>
          have h0 : 57 < (s[k].toNat : Int) := by assumption
          have h1 : 97 ≤ (s[k].toNat : Int) := by assumption
          have h2 : (s[k].toNat : Int) ≤ 102 := by assumption
          have hv : valB s[k] = some (s[k].toNat - 87) := (if_neg (by omega)).trans (if_pos ⟨by omega, by omega⟩)
          refine ⟨k + 1, 16 * x + (s[k].toNat - 87), by omega, by go_num, ?_, pow_step _ _ _ HX.out (by omega), ?_⟩
          · rw [show (s[k].toNat : Int) - 97 + 10 = (s[k].toNat : Int) - 87 by omega, or_digit x k _ 87 (by omega) HX.out (by omega) (by omega)]
            congr 1; omega
          · rw [← word_step s k x _ hlt hv]; exact HW.out
        case measure => simp [intOf]; omega
      · go_ret2
        have h1 : 57 < (s[k].toNat : Int) := by assumption
        have h2 : 102 < (s[k].toNat : Int) := by assumption
        have hv : valB s[k] = none := (if_neg (by omega)).trans (if_neg (by omega))
        rw [← HW.out, word_stop s k x hlt hv]
        exact ⟨rfl, rfl⟩
      · go_ret2
        have h1 : 57 < (s[k].toNat : Int) := by assumption
        have h2 : (s[k].toNat : Int) < 97 := by assumption
        have hv : valB s[k] = none := (if_neg (by omega)).trans (if_neg (by omega))
        rw [← HW.out, word_stop s k x hlt hv]
        exact ⟨rfl, rfl⟩
      · go_ret2
        have h1 : (s[k].toNat : Int) < 48 := by assumption
        have hv : valB s[k] = none := (if_neg (by omega)).trans (if_neg (by omega))
        rw [← HW.out, word_stop s k x hlt hv]
        exact ⟨rfl, rfl⟩
    · go_wp2
      go_ret2
      have hz : k = s.size := by omega
      have he : s.data.toList.drop k = [] := List.drop_eq_nil_of_le (by simp; omega)
      rw [← HW.out, he]
      exact ⟨rfl, rfl⟩

def parseV (s : ByteArray) : Value :=
  if s.size = 33 then
    if s.data.toList.getD 16 0 = 44 then
      match wordFrom 0 (s.data.toList.take 16), wordFrom 0 (s.data.toList.drop 17) with
      | some p, some q => .tuple #[.complex .f64 p q, .bool true]
      | _, _ => .tuple #[.complex .f64 0 0, .bool false]
    else .tuple #[.complex .f64 0 0, .bool false]
  else .tuple #[.complex .f64 0 0, .bool false]
theorem take_extract (s : ByteArray) : (s.extract 0 16).data.toList = s.data.toList.take 16 := by
  rw [ByteArray.data_extract]; simp
theorem drop_extract (s : ByteArray) : (s.extract 17 s.size).data.toList = s.data.toList.drop 17 := by
  rw [ByteArray.data_extract]; simp
  rw [List.take_of_length_le (by simp)]
theorem get16 (s : ByteArray) (h : 16 < s.size) : s.data.toList.getD 16 0 = s[16] := by
  rw [List.getD_eq_getElem?_getD, List.getElem?_eq_getElem (by simpa using h)]; rfl
set_option maxHeartbeats 2000000 in
theorem parse_any (s : ByteArray) (w : World) :
    Calls Tryd.prog 37 #[.string s] w fun e w' => e = .returned (parseV s) ∧ w = w' := by
  by_cases h : s.size = 33
  · have h16 : 16 < s.size := by omega
    have hsz1 : (s.extract 0 16).size ≤ 16 := by rw [ByteArray.size_extract]; omega
    have hsz2 : (s.extract 17 s.size).size ≤ 16 := by rw [ByteArray.size_extract]; omega
    have hn : ((s.size : Int) != 33) = false := by rw [bne_eq_false_iff_eq]; omega
    have b16 : (16 : Int) ≤ (s.size : Int) := by omega
    have b17 : (17 : Int) ≤ (s.size : Int) := by omega
    by_cases hc : s.data.toList.getD 16 0 = 44
    · have hv : parseV s = match wordFrom 0 (s.data.toList.take 16), wordFrom 0 (s.data.toList.drop 17) with
        | some p, some q => .tuple #[.complex .f64 p q, .bool true]
        | _, _ => .tuple #[.complex .f64 0 0, .bool false] := by rw [parseV, if_pos h, if_pos hc]
      rw [hv]
      clear hv
      rw [get16 s h16] at hc
      have hc1 : ((s[16].toNat : Int) != 44) = false := by rw [bne_eq_false_iff_eq, hc]; rfl
      clear hc h
      rw [← take_extract, ← drop_extract]
      generalize ha : wordFrom 0 (s.extract 0 16).data.toList = A
      generalize hb : wordFrom 0 (s.extract 17 s.size).data.toList = B
      have c1 := word_any (s.extract 0 16) hsz1
      have c2 := word_any (s.extract 17 s.size) hsz2
      rw [ha] at c1
      rw [hb] at c2
      have C1 := Lib.hid c1
      have C2 := Lib.hid c2
      clear c1 c2 ha hb
      cases A with
      | none =>
        cases B with
        | none =>
          have c1 : ∀ w, Calls Tryd.prog 47 #[.string (s.extract 0 16)] w fun e w' => e = .returned (.tuple #[.int .u64 0, .bool false]) ∧ w = w' := C1.out
          have c2 : ∀ w, Calls Tryd.prog 47 #[.string (s.extract 17 s.size)] w fun e w' => e = .returned (.tuple #[.int .u64 0, .bool false]) ∧ w = w' := C2.out
          have D1 := Lib.hid c1
          have D2 := Lib.hid c2
          clear c1 c2 C1 C2
          go_enter Tryd.func37, Tryd.ntmps37
          go_wp2_with fail
          refine (D1.out _).mono ?_
          rintro e w' ⟨rfl, rfl⟩
          go_wp2_with fail
          refine (D2.out _).mono ?_
          rintro e w' ⟨rfl, rfl⟩
          go_wp2
          go_ret2
          exact ⟨rfl, rfl⟩
        | some B =>
          have c1 : ∀ w, Calls Tryd.prog 47 #[.string (s.extract 0 16)] w fun e w' => e = .returned (.tuple #[.int .u64 0, .bool false]) ∧ w = w' := C1.out
          have c2 : ∀ w, Calls Tryd.prog 47 #[.string (s.extract 17 s.size)] w fun e w' => e = .returned (.tuple #[.int .u64 (B : Int), .bool true]) ∧ w = w' := C2.out
          have D1 := Lib.hid c1
          have D2 := Lib.hid c2
          clear c1 c2 C1 C2
          go_enter Tryd.func37, Tryd.ntmps37
          go_wp2_with fail
          refine (D1.out _).mono ?_
          rintro e w' ⟨rfl, rfl⟩
          go_wp2_with fail
          refine (D2.out _).mono ?_
          rintro e w' ⟨rfl, rfl⟩
          go_wp2
          go_ret2
          exact ⟨rfl, rfl⟩
      | some A =>
        cases B with
        | none =>
          have c1 : ∀ w, Calls Tryd.prog 47 #[.string (s.extract 0 16)] w fun e w' => e = .returned (.tuple #[.int .u64 (A : Int), .bool true]) ∧ w = w' := C1.out
          have c2 : ∀ w, Calls Tryd.prog 47 #[.string (s.extract 17 s.size)] w fun e w' => e = .returned (.tuple #[.int .u64 0, .bool false]) ∧ w = w' := C2.out
          have D1 := Lib.hid c1
          have D2 := Lib.hid c2
          clear c1 c2 C1 C2
          go_enter Tryd.func37, Tryd.ntmps37
          go_wp2_with fail
          refine (D1.out _).mono ?_
          rintro e w' ⟨rfl, rfl⟩
          go_wp2_with fail
          refine (D2.out _).mono ?_
          rintro e w' ⟨rfl, rfl⟩
          go_wp2
          go_ret2
          exact ⟨rfl, rfl⟩
        | some B =>
          have c1 : ∀ w, Calls Tryd.prog 47 #[.string (s.extract 0 16)] w fun e w' => e = .returned (.tuple #[.int .u64 (A : Int), .bool true]) ∧ w = w' := C1.out
          have c2 : ∀ w, Calls Tryd.prog 47 #[.string (s.extract 17 s.size)] w fun e w' => e = .returned (.tuple #[.int .u64 (B : Int), .bool true]) ∧ w = w' := C2.out
          have D1 := Lib.hid c1
          have D2 := Lib.hid c2
          clear c1 c2 C1 C2
          go_enter Tryd.func37, Tryd.ntmps37
          go_wp2_with fail
          refine (D1.out _).mono ?_
          rintro e w' ⟨rfl, rfl⟩
          go_wp2_with fail
          refine (D2.out _).mono ?_
          rintro e w' ⟨rfl, rfl⟩
          go_wp2_with (go_at_call 32; refine (of32 _ _ _).mono ?_; rintro e w' ⟨rfl, rfl⟩)
          go_ret2
          exact ⟨rfl, rfl⟩
    · have hv : parseV s = .tuple #[.complex .f64 0 0, .bool false] := by rw [parseV, if_pos h, if_neg hc]
      rw [hv]
      clear hv
      rw [get16 s h16] at hc
      have hc1 : ((s[16].toNat : Int) != 44) = true := by
        rw [bne_iff_ne]
        intro e
        exact hc (UInt8.toNat_inj.1 (by rw [show (44 : UInt8).toNat = 44 from rfl]; omega))
      clear hc h
      go_enter Tryd.func37, Tryd.ntmps37
      go_wp2
      go_ret2
      exact ⟨rfl, rfl⟩
  · have hn : ((s.size : Int) != 33) = true := by rw [bne_iff_ne]; omega
    go_enter Tryd.func37, Tryd.ntmps37
    go_wp2
    go_ret2
    exact ⟨by rw [parseV, if_neg h]; rfl, rfl⟩

theorem val_dig : ∀ d : Fin 16, valB (digB d.val) = some d.val := by decide
theorem wordFrom_append (a b : List UInt8) : ∀ w, wordFrom w (a ++ b) = (wordFrom w a).bind fun v => wordFrom v b := by
  induction a with
  | nil => intro w; rfl
  | cons c a ih =>
    intro w
    simp only [List.cons_append, wordFrom]
    cases valB c with
    | none => rfl
    | some d => exact ih _
theorem word_hex_from (x : Nat) : ∀ k, k ≤ 16 → wordFrom 0 ((List.range k).map fun j => digB (x / 16 ^ (15 - j) % 16)) = some (x / 16 ^ (16 - k) % 16 ^ k) := by
  intro k
  induction k with
  | zero => intro _; simp [wordFrom]; omega
  | succ k ih =>
    intro hk
    rw [List.range_succ, List.map_append, wordFrom_append, ih (by omega)]
    simp only [List.map_cons, List.map_nil, Option.bind_some, wordFrom]
    have hlt : x / 16 ^ (15 - k) % 16 < 16 := Nat.mod_lt _ (by omega)
    rw [val_dig ⟨_, hlt⟩]
    simp only
    congr 1
    have e : 16 - k = (15 - k) + 1 := by omega
    have e2 : 16 - (k + 1) = 15 - k := by omega
    rw [e, e2, Nat.pow_succ, ← Nat.div_div_eq_div_mul, Nat.pow_succ]
    generalize x / 16 ^ (15 - k) = y
    rw [Nat.mul_comm (16 ^ k) 16, Nat.mod_mul]
    omega
theorem word_hex (x : Nat) (h : x < 18446744073709551616) : wordFrom 0 (hexB x) = some x := by
  have := word_hex_from x 16 (Nat.le_refl _)
  rw [show 16 - 16 = 0 from rfl, Nat.pow_zero, Nat.div_one, Nat.mod_eq_of_lt (by simpa using h)] at this
  exact this
theorem text_size (p q : Nat) : (ByteArray.mk (textB p q).toArray).size = 33 := by
  show (textB p q).toArray.size = 33
  simp [textB_length]
theorem parse_text (p q : Nat) (hp : p < 18446744073709551616) (hq : q < 18446744073709551616) : parseV ⟨(textB p q).toArray⟩ = .tuple #[.complex .f64 p q, .bool true] := by
  have h1 : (textB p q).take 16 = hexB p := by
    unfold textB
    rw [List.take_append_of_le_length (by rw [hexB_length]; omega), List.take_of_length_le (by rw [hexB_length]; omega)]
  have h2 : (textB p q).drop 17 = hexB q := by
    unfold textB
    rw [List.drop_append, hexB_length, List.drop_of_length_le (by rw [hexB_length]; omega)]
    rfl
  have h3 : (textB p q).getD 16 0 = 44 := by
    unfold textB
    rw [List.getD_eq_getElem?_getD, List.getElem?_append_right (by rw [hexB_length]; omega), hexB_length]
    rfl
  unfold parseV
  rw [if_pos (text_size p q)]
  rw [if_pos h3, h1, h2, word_hex p hp, word_hex q hq]
theorem text_inj {p q r s : Nat} (hp : p < 18446744073709551616) (hq : q < 18446744073709551616) (hr : r < 18446744073709551616) (hs : s < 18446744073709551616)
    (h : (textB p q) = (textB r s)) : p = r ∧ q = s := by
  have h1 := parse_text p q hp hq
  have h2 := parse_text r s hr hs
  rw [h, h2] at h1
  injection h1 with h1
  injection h1 with h1
  injection h1 with h1 _
  injection h1 with _ h1 h3
  exact ⟨h1.symm, h3.symm⟩
end Go.Proofs.YtacfddlclbelmaaDoor.Ps
