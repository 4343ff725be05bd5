/- Fields of bits. -/
import Derived.Test.YtlmlckidgfnhdaaOw
import Derived.Laws.Bits64b
namespace Go.Proofs.Ytlmlckidgfnhdaa.Wb
open Go.RowKit Go.ChangeShapes Go.WideShapes Go.Proofs.YtlmlckidgfnhdaaW.PrintWords Go.Proofs.Ytlmlckidgfnhdaa.Ba
set_option linter.unusedVariables false
set_option linter.unusedSimpArgs false
theorem pow_le (i : Nat) (hi : i ≤ 60) : 0 < 2 ^ i ∧ 2 ^ i ≤ 1152921504606846976 := by
  refine ⟨Nat.pow_pos (by omega), ?_⟩
  calc 2 ^ i ≤ 2 ^ 60 := Nat.pow_le_pow_right (by omega) hi
    _ = 1152921504606846976 := by decide
theorem cast_mul_pow (f i : Nat) : (f : Int) * 2 ^ i = ((f * 2 ^ i : Nat) : Int) := by rw [Int.natCast_mul, Int.natCast_pow]; rfl
theorem wrap_nat (n : Nat) (h : n < 18446744073709551616) : IntKind.u64.wrap (n : Int) = (n : Int) := by rw [IntKind.wrap_u64]; omega
theorem and_field (x i : Nat) : (x &&& 3 * 2 ^ i) / 2 ^ i = x / 2 ^ i % 4 := by
  rw [← Nat.shiftLeft_eq, ← Nat.shiftRight_eq_div_pow, ← Nat.shiftRight_eq_div_pow, Nat.shiftRight_and_distrib, Nat.shiftLeft_shiftRight]
  exact Nat.and_two_pow_sub_one_eq_mod _ 2
theorem and_keep (f i : Nat) (hf : f ≤ 3) : (f * 2 ^ i) &&& (3 * 2 ^ i) = f * 2 ^ i := by
  rw [← Nat.shiftLeft_eq, ← Nat.shiftLeft_eq, ← Nat.shiftLeft_and_distrib]
  have : f &&& 3 = f := by
    have h : f = 0 ∨ f = 1 ∨ f = 2 ∨ f = 3 := by omega
    rcases h with rfl | rfl | rfl | rfl <;> rfl
  rw [this]
theorem or_add (x f i : Nat) (hx : x < 2 ^ i) : x ||| f * 2 ^ i = x + f * 2 ^ i := by
  rw [Nat.or_comm, Nat.mul_comm f, ← Nat.two_pow_add_eq_or_of_lt hx]
  omega
theorem andNot_field (x i : Nat) (hi : i ≤ 60) (hx : x < 2 ^ i) : bits .andNot .u64 (x : Int) ((3 * 2 ^ i : Nat) : Int) = (x : Int) := by
  have hp := pow_le i hi
  have h1 : (BitVec.ofInt 64 (x : Int)).toNat = x := by
    rw [BitVec.ofInt_natCast, BitVec.toNat_ofNat]; exact Nat.mod_eq_of_lt (by omega)
  have h2 : (BitVec.ofInt 64 ((3 * 2 ^ i : Nat) : Int)).toNat = 3 * 2 ^ i := by
    rw [BitVec.ofInt_natCast, BitVec.toNat_ofNat]; exact Nat.mod_eq_of_lt (by omega)
  show IntKind.u64.wrap ((BitVec.ofInt 64 (x : Int) &&& ~~~(BitVec.ofInt 64 ((3 * 2 ^ i : Nat) : Int))).toNat : Int) = _
  rw [BitVec.toNat_and, BitVec.toNat_not, h1, h2]
  have h3 : x &&& (2 ^ 64 - 1 - 3 * 2 ^ i) = x := by
    refine Nat.eq_of_testBit_eq fun j => ?_
    rw [Nat.testBit_and, show 2 ^ 64 - 1 - 3 * 2 ^ i = 2 ^ 64 - (3 * 2 ^ i + 1) by omega, Nat.testBit_two_pow_sub_succ (by omega)]
    by_cases hj : j < i
    · rw [Nat.testBit_mul_two_pow, show decide (i ≤ j) = false from decide_eq_false (by omega), show decide (j < 64) = true from decide_eq_true (by omega)]
      simp
    · rw [Nat.testBit_lt_two_pow (Nat.lt_of_lt_of_le hx (Nat.pow_le_pow_right (by omega) (by omega)))]
      simp
  rw [h3]
  exact wrap_nat x (by omega)
theorem mask2 (i : Nat) (hi : i ≤ 60) (w : World) : Calls Try.prog 58 #[.int .i64 (i : Int), .int .i64 2] w fun e w' => e = .returned (.tuple #[.int .u64 ((3 * 2 ^ i : Nat) : Int), .bool true]) ∧ w = w' := by
  have hp := pow_le i hi
  have HW : Hid (IntKind.u64.wrap (3 * 2 ^ i) = ((3 * 2 ^ i : Nat) : Int)) := Lib.hid (by rw [show (3 : Int) * 2 ^ i = ((3 * 2 ^ i : Nat) : Int) from cast_mul_pow 3 i]; exact wrap_nat _ (by omega))
  clear hp
  go_enter Try.func58, Try.ntmps58
  go_wp2
  go_ret2
  refine ⟨?_, rfl⟩
  rw [← HW.out]
  rfl
theorem mask4 (w : World) : Calls Try.prog 58 #[.int .i64 0, .int .i64 4] w fun e w' => e = .returned (.tuple #[.int .u64 15, .bool true]) ∧ w = w' := by
  go_enter Try.func58, Try.ntmps58
  go_wp2
  go_ret2
  exact ⟨rfl, rfl⟩
theorem get2 (x i : Nat) (hi : i ≤ 60) (hx : x < 18446744073709551616) (w : World) : Calls Try.prog 53 #[.int .u64 (x : Int), .int .i64 (i : Int), .int .i64 2] w fun e w' => e = .returned (.int .u64 ((x / 2 ^ i % 4 : Nat) : Int)) ∧ w = w' := by
  have hp := pow_le i hi
  have HM := Lib.hid (mask2 i hi w)
  have hM0 : 0 < 3 * 2 ^ i ∧ 3 * 2 ^ i < 18446744073709551616 := by omega
  have HR : Hid (bits .and .u64 (x : Int) ((3 * 2 ^ i : Nat) : Int) / 2 ^ i = ((x / 2 ^ i % 4 : Nat) : Int)) := Lib.hid (by
    rw [bits_and_u64_nat x (3 * 2 ^ i) hx hM0.2, ← and_field x i]
    rw [show ((2 : Int) ^ i) = ((2 ^ i : Nat) : Int) by rw [Int.natCast_pow]; rfl, ← Int.natCast_ediv])
  obtain ⟨M, hM⟩ : ∃ M, 3 * 2 ^ i = M := ⟨_, rfl⟩
  rw [hM] at HM hM0 HR
  have h0 : ((M : Int) == 0) = false := beq_eq_false_iff_ne.2 (by omega)
  clear hp hM
  go_enter Try.func53, Try.ntmps53
  go_wp2_with fail
  refine HM.out.mono ?_
  rintro e w1 ⟨rfl, rfl⟩
  go_wp2
  go_ret
  rw [← HR.out]
  exact ⟨rfl, rfl⟩
theorem get4 (x : Nat) (hx : x < 18446744073709551616) (w : World) : Calls Try.prog 53 #[.int .u64 (x : Int), .int .i64 0, .int .i64 4] w fun e w' => e = .returned (.int .u64 ((x % 16 : Nat) : Int)) ∧ w = w' := by
  have HR : Hid (bits .and .u64 (x : Int) 15 = ((x % 16 : Nat) : Int)) := Lib.hid (by
    have := bits_and_u64_nat x 15 hx (by omega)
    rw [show ((15 : Nat) : Int) = 15 from rfl] at this
    rw [this, show (15 : Nat) = 2 ^ 4 - 1 from rfl, Nat.and_two_pow_sub_one_eq_mod])
  have h0 : 0 ≤ bits .and .u64 (x : Int) 15 ∧ bits .and .u64 (x : Int) 15 ≤ 15 := by rw [HR.out]; omega
  go_enter Try.func53, Try.ntmps53
  go_wp2_with fail
  refine (mask4 w).mono ?_
  rintro e w1 ⟨rfl, rfl⟩
  go_wp2
  go_ret
  rw [← HR.out]
  exact ⟨by first | rfl | (simp), rfl⟩
theorem set2 (x f i : Nat) (hi : i ≤ 60) (hx : x < 2 ^ i) (hf : f ≤ 3) (w : World) : Calls Try.prog 55 #[.int .u64 (x : Int), .int .i64 (i : Int), .int .i64 2, .int .u64 (f : Int)] w fun e w' => e = .returned (.int .u64 ((x + f * 2 ^ i : Nat) : Int)) ∧ w = w' := by
  have hp := pow_le i hi
  have HM := Lib.hid (mask2 i hi w)
  have hfi : f * 2 ^ i ≤ 3 * 2 ^ i := Nat.mul_le_mul_right _ hf
  have hM0 : 0 < 3 * 2 ^ i ∧ 3 * 2 ^ i < 18446744073709551616 := by omega
  have HR : Hid (bits .or .u64 (bits .andNot .u64 (x : Int) ((3 * 2 ^ i : Nat) : Int)) (bits .and .u64 (IntKind.u64.wrap ((f : Int) * 2 ^ i)) ((3 * 2 ^ i : Nat) : Int)) = ((x + f * 2 ^ i : Nat) : Int)) := Lib.hid (by
    rw [andNot_field x i hi hx, cast_mul_pow, wrap_nat _ (by omega), bits_and_u64_nat (f * 2 ^ i) (3 * 2 ^ i) (by omega) hM0.2, and_keep f i hf, bits_or_u64_nat x (f * 2 ^ i) (by omega) (by omega), or_add x f i hx])
  obtain ⟨M, hM⟩ : ∃ M, 3 * 2 ^ i = M := ⟨_, rfl⟩
  rw [hM] at HM hM0 HR
  have h0 : ((M : Int) == 0) = false := beq_eq_false_iff_ne.2 (by omega)
  clear hp hM hfi
  go_enter Try.func55, Try.ntmps55
  go_wp2_with fail
  refine HM.out.mono ?_
  rintro e w1 ⟨rfl, rfl⟩
  go_wp2
  go_ret
  rw [← HR.out]
  exact ⟨rfl, rfl⟩
theorem set4 (n : Nat) (hn : n ≤ 15) (w : World) : Calls Try.prog 55 #[.int .u64 0, .int .i64 0, .int .i64 4, .int .u64 (n : Int)] w fun e w' => e = .returned (.int .u64 (n : Int)) ∧ w = w' := by
  have h : n = 0 ∨ n = 1 ∨ n = 2 ∨ n = 3 ∨ n = 4 ∨ n = 5 ∨ n = 6 ∨ n = 7 ∨ n = 8 ∨ n = 9 ∨ n = 10 ∨ n = 11 ∨ n = 12 ∨ n = 13 ∨ n = 14 ∨ n = 15 := by omega
  have HR : Hid (∀ W : World, bits .or .u64 (bits .andNot .u64 0 15) (bits .and .u64 (n : Int) 15) = (n : Int)) := Lib.hid (fun _ => by rcases h with rfl | rfl | rfl | rfl | rfl | rfl | rfl | rfl | rfl | rfl | rfl | rfl | rfl | rfl | rfl | rfl <;> decide)
  clear h
  go_enter Try.func55, Try.ntmps55
  go_wp2_with fail
  refine (mask4 w).mono ?_
  rintro e w1 ⟨rfl, rfl⟩
  go_wp2
  go_ret
  refine ⟨?_, rfl⟩
  exact congrArg (fun z : Int => Ending.returned (.int .u64 z)) (HR.out w)
end Go.Proofs.Ytlmlckidgfnhdaa.Wb
