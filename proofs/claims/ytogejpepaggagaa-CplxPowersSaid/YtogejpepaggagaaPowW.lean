/- The Go function cplx.Power is the plain power. -/
import Derived.Test.YtogejpepaggagaaW
import Derived.Test.YtogejpepaggagaaPow
import Derived.Test.YtogejpepaggagaaScope
import Derived.WalkMore
import Derived.Lib.Hide
namespace Go.Proofs.Ytogejpepaggagaa.Cx
open Go.RowKit

theorem ofInt_i64 (a : Nat) (ha : a < 9223372036854775808) : (BitVec.ofInt 64 (a : Int)).toNat = a := by
  rw [BitVec.ofInt_natCast, BitVec.toNat_ofNat]; exact Nat.mod_eq_of_lt (by omega)
theorem i64_and_nat (a b : Nat) (ha : a < 9223372036854775808) (hb : b < 9223372036854775808) : Go.bits .and .i64 (a : Int) (b : Int) = ((a &&& b : Nat) : Int) := by
  have hx : a &&& b < 2 ^ 63 := Nat.and_lt_two_pow _ (by omega)
  show IntKind.i64.wrap ((BitVec.ofInt 64 (a : Int) &&& BitVec.ofInt 64 (b : Int)).toNat : Int) = _
  rw [BitVec.toNat_and, ofInt_i64 a ha, ofInt_i64 b hb, IntKind.wrap_i64]
  omega

def Fr (p q : Nat) (n : Int) (x : Nat × Nat) (b : Int) (a : Act) : Prop :=
  ∃ u7 u8 u9 u10 u11 u12 u13 u14 u15 u16 u17 u18 u19 u20 u21 u22 u23 u24 u25 u26 u27 u28 u29 u30 u31 u32 : Value, a = ⟨#[.complex .f64 p q, .int .i64 n, undef, undef, .complex .f64 0 0, .complex .f64 x.1 x.2, .int .i64 b, u7, u8, u9, u10, u11, u12, u13, u14, u15, u16, u17, u18, u19, u20, u21, u22, u23, u24, u25, u26, u27, u28, u29, u30, u31, u32], []⟩
def Bit (b : Int) (k : Nat) : Prop := b = ((2 ^ k : Nat) : Int)
def J0 (p q : Nat) (n : Int) (w : World) (a : Act) (w' : World) : Prop := ∃ (k : Nat) (b : Int), Fr p q n (p, q) b a ∧ Bit b k ∧ 1 ≤ b ∧ b ≤ n ∧ w' = w
def J1 (p q : Nat) (n : Int) (w : World) (a : Act) (w' : World) : Prop :=
  ∃ (k : Nat) (b : Int) (x : Nat × Nat), Fr p q n x b a ∧ Bit b k ∧ 1 ≤ b ∧ b ≤ n ∧ pw (p, q) n.toNat k x = power (p, q) n.toNat ∧ Dr w w'
def Ja (p q : Nat) (n : Int) (w : World) (l : Nat) (a : Act) (w' : World) : Prop := (l = 0 ∧ J0 p q n w a w') ∨ (l = 1 ∧ J1 p q n w a w')
def bitOf (a : Act) : Nat := (intOf (a.tmps.getD 6 undef)).toNat
def mu : Nat → Act → World → Nat
  | 0, a, _ => 20000 - bitOf a
  | _ + 1, a, _ => bitOf a
theorem Dr.of1 (w : World) (n : Nat) : Dr w (w.drewN n) := ⟨n, rfl⟩
theorem Dr.of2 (w : World) (n m : Nat) : Dr w (w.drewN (n + m)) := ⟨n + m, rfl⟩
theorem Fr.bit {p q : Nat} {n : Int} {x : Nat × Nat} {b : Int} {a : Act} (h : Fr p q n x b a) : bitOf a = b.toNat := by
  obtain ⟨u7, u8, u9, u10, u11, u12, u13, u14, u15, u16, u17, u18, u19, u20, u21, u22, u23, u24, u25, u26, u27, u28, u29, u30, u31, u32, rfl⟩ := h
  rfl
theorem Fr.mk' (p q : Nat) (n : Int) (x : Nat × Nat) (b : Int) (u7 u8 u9 u10 u11 u12 u13 u14 u15 u16 u17 u18 u19 u20 u21 u22 u23 u24 u25 u26 u27 u28 u29 u30 u31 u32 : Value) :
    Fr p q n x b ⟨#[.complex .f64 p q, .int .i64 n, undef, undef, .complex .f64 0 0, .complex .f64 x.1 x.2, .int .i64 b, u7, u8, u9, u10, u11, u12, u13, u14, u15, u16, u17, u18, u19, u20, u21, u22, u23, u24, u25, u26, u27, u28, u29, u30, u31, u32], []⟩ := ⟨u7, u8, u9, u10, u11, u12, u13, u14, u15, u16, u17, u18, u19, u20, u21, u22, u23, u24, u25, u26, u27, u28, u29, u30, u31, u32, rfl⟩

theorem Bit.double {b : Int} {k : Nat} (h : Bit b k) : Bit (b * 2) (k + 1) := by
  unfold Bit at *
  rw [h, Nat.pow_succ, Int.natCast_mul]; rfl
theorem Bit.half {b : Int} {k : Nat} (h : Bit b (k + 1)) : Bit (b / 2) k := by
  unfold Bit at *
  rw [Nat.pow_succ] at h
  generalize 2 ^ k = t at *
  omega
theorem Bit.zero {b : Int} (h : Bit b 0) : b / 2 = 0 := by
  unfold Bit at h
  rw [h]; decide
theorem Bit.pos {b : Int} {k : Nat} (h : Bit b (k + 1)) : 1 ≤ b / 2 := by
  unfold Bit at h
  have := Nat.two_pow_pos k
  rw [Nat.pow_succ] at h
  generalize 2 ^ k = t at *
  omega
theorem Bit.log {b n : Int} {k : Nat} (h : Bit b k) (h1 : 1 ≤ b) (h2 : b ≤ n) (h3 : n / 2 < b) : k = n.toNat.log2 := by
  unfold Bit at h
  symm
  rw [Nat.log2_eq_iff (by omega)]
  rw [Nat.pow_succ]
  generalize 2 ^ k = t at *
  omega
theorem and_test {n b : Int} {k : Nat} (h : Bit b k) (hb : b ≤ n) (_hm : n ≤ 4096) : (Go.bits .and .i64 n b != 0) = n.toNat.testBit k := by
  unfold Bit at h
  subst h
  have hp := Nat.two_pow_pos k
  obtain ⟨N, rfl⟩ := Int.eq_ofNat_of_zero_le (show 0 ≤ n by omega)
  rw [i64_and_nat N (2 ^ k) (by omega) (by omega), Int.toNat_natCast]
  cases ht : N.testBit k with
  | true =>
    have h0 : (N &&& 2 ^ k) ≠ 0 := by
      intro h0
      have h1 : (N &&& 2 ^ k).testBit k = true := by rw [Nat.testBit_and, ht, Nat.testBit_two_pow_self]; rfl
      rw [h0] at h1
      simp at h1
    rw [bne_iff_ne]
    omega
  | false =>
    have h0 : (N &&& 2 ^ k) = 0 := by
      refine Nat.eq_of_testBit_eq fun i => ?_
      rw [Nat.testBit_and, Nat.testBit_two_pow, Nat.zero_testBit]
      by_cases h : k = i
      · subst h; rw [ht]; rfl
      · simp [h]
    rw [h0]; rfl

set_option maxHeartbeats 1000000 in
theorem power_any (p q : Nat) (m0 n : Int) (w : World) (hn0 : 1 ≤ m0) (hmn : m0 ≤ 4096 ∧ n = m0 ∨ 4096 < m0 ∧ n = 4096) :
    Calls Try.prog 27 #[.complex .f64 p q, .int .i64 m0] w fun e w' => e = .returned (.complex .f64 (power (p, q) n.toNat).1 (power (p, q) n.toNat).2) ∧ Dr w w' := by
  go_enter Try.func27, Try.ntmps27
  go_wp2
  refine Sc.wp_scope_labels (Ja p q n w) mu ?_ ?_
  · rcases hmn with ⟨hm, rfl⟩ | ⟨hm, rfl⟩
    · by_cases h : 1 ≤ n / 2
      · go_wp2
        go_step3
        go_wp2
        go_step3
        exact .inl ⟨rfl, 1, 2, Fr.mk' .., rfl, by omega, by omega, rfl⟩
      · obtain rfl : n = 1 := by omega
        go_wp2
        go_step3
        go_wp2
        go_step3
        go_wp2
        simp only [Sc.jumps]
        go_ret
        exact ⟨rfl, Dr.refl _⟩
    · have hlt : ¬ m0 < 1 := by omega
      go_wp2
      go_step3
      go_wp2
      go_step3
      exact .inl ⟨rfl, 1, 2, Fr.mk' .., rfl, by omega, by omega, rfl⟩
  · have hm : n ≤ 4096 := by omega
    have hn : 1 ≤ n := by omega
    clear hmn hn0
    rintro l a' w' (⟨rfl, k, b, hF, hbit, hb1, hbn, rfl⟩ | ⟨rfl, k, b, x, hF, hbit, hb1, hbn, hx, hdr⟩)
    · refine ⟨_, rfl, ?_⟩
      have hmu : mu 0 a' w' = 20000 - b.toNat := congrArg (20000 - ·) hF.bit
      have HMU := Lib.hid hmu
      clear hmu
      obtain ⟨u7, u8, u9, u10, u11, u12, u13, u14, u15, u16, u17, u18, u19, u20, u21, u22, u23, u24, u25, u26, u27, u28, u29, u30, u31, u32, rfl⟩ := hF
      by_cases h : b ≤ n / 2
      · have h2 := hbit.double
        go_wp2
        go_step3
        refine ⟨.inl ⟨rfl, k + 1, b * 2, Fr.mk' .., h2, by omega, by omega, rfl⟩, ?_⟩
        rw [HMU.out]
        show 20000 - (b * 2).toNat < 20000 - b.toNat
        omega
      · have hlog := hbit.log hb1 hbn (by omega)
        have hx : pw (p, q) n.toNat k (p, q) = power (p, q) n.toNat := by rw [hlog]; rfl
        clear hlog
        by_cases hk : k = 0
        · subst hk
          have hz := hbit.zero
          have hz1 : (b / 2 == 0) = true := by rw [hz]; rfl
          have HX := Lib.hid hx
          clear hx
          go_wp2
          go_step3
          go_wp2
          simp only [Sc.jumps]
          go_ret
          have hx' : (p, q) = power (p, q) n.toNat := HX.out
          rw [← hx']
          exact ⟨rfl, Dr.refl _⟩
        · obtain ⟨k, rfl⟩ : ∃ j, k = j + 1 := ⟨k - 1, by omega⟩
          have hh := hbit.half
          have hp := hbit.pos
          have hlt : b / 2 < b := by omega
          have hle : b / 2 ≤ n := by omega
          have hz1 : (b / 2 == 0) = false := by rw [beq_eq_false_iff_ne]; omega
          have ht := and_test hh hle hm
          have hst : pw (p, q) n.toNat (k + 1) (p, q) = pw (p, q) n.toNat k (if n.toNat.testBit k then cmul (cmul (p, q) (p, q)) (p, q) else cmul (p, q) (p, q)) := rfl
          rw [hst] at hx
          clear hst
          cases htb : n.toNat.testBit k with
          | true =>
            rw [htb] at ht
            rw [if_pos htb] at hx
            have HX := Lib.hid hx
            clear hx htb
            go_wp2_with fail
            go_step3
            go_wp2_with fail
            refine (mul_any _ _ _ _ _).mono ?_
            rintro e w' ⟨rfl, m1, rfl⟩
            go_wp2_with fail
            refine (mul_any _ _ _ _ _).mono ?_
            rintro e w' ⟨rfl, m2, rfl⟩
            go_wp2
            go_step3
            refine ⟨.inr ⟨rfl, k, b / 2, cmul (cmul (p, q) (p, q)) (p, q), Fr.mk' .., hh, hp, hle, HX.out, Dr.of2 _ _ _⟩, ?_⟩
            rw [HMU.out]
            show (b / 2).toNat < 20000 - b.toNat
            omega
          | false =>
            rw [htb] at ht
            rw [if_neg (by rw [htb]; decide)] at hx
            have HX := Lib.hid hx
            clear hx htb
            go_wp2_with fail
            go_step3
            go_wp2_with fail
            refine (mul_any _ _ _ _ _).mono ?_
            rintro e w' ⟨rfl, m1, rfl⟩
            go_wp2
            go_step3
            refine ⟨.inr ⟨rfl, k, b / 2, cmul (p, q) (p, q), Fr.mk' .., hh, hp, hle, HX.out, Dr.of1 _ _⟩, ?_⟩
            rw [HMU.out]
            show (b / 2).toNat < 20000 - b.toNat
            omega
    · refine ⟨_, rfl, ?_⟩
      have hmu : mu 1 a' w' = b.toNat := hF.bit
      have HMU := Lib.hid hmu
      clear hmu
      obtain ⟨m, rfl⟩ := hdr
      obtain ⟨u7, u8, u9, u10, u11, u12, u13, u14, u15, u16, u17, u18, u19, u20, u21, u22, u23, u24, u25, u26, u27, u28, u29, u30, u31, u32, rfl⟩ := hF
      by_cases hk : k = 0
      · subst hk
        have hz := hbit.zero
        have hz1 : (b / 2 == 0) = true := by rw [hz]; rfl
        have HX := Lib.hid hx
        clear hx
        go_wp2
        simp only [Sc.jumps]
        go_ret
        have hx' : x = power (p, q) n.toNat := HX.out
        rw [← hx']
        exact ⟨rfl, ⟨_, rfl⟩⟩
      · obtain ⟨k, rfl⟩ : ∃ j, k = j + 1 := ⟨k - 1, by omega⟩
        have hh := hbit.half
        have hp := hbit.pos
        have hlt : b / 2 < b := by omega
        have hle : b / 2 ≤ n := by omega
        have hz1 : (b / 2 == 0) = false := by rw [beq_eq_false_iff_ne]; omega
        have ht := and_test hh hle hm
        have hst : pw (p, q) n.toNat (k + 1) x = pw (p, q) n.toNat k (if n.toNat.testBit k then cmul (cmul x x) (p, q) else cmul x x) := rfl
        rw [hst] at hx
        clear hst
        cases htb : n.toNat.testBit k with
        | true =>
          rw [htb] at ht
          rw [if_pos htb] at hx
          have HX := Lib.hid hx
          clear hx htb
          go_wp2_with fail
          refine (mul_any _ _ _ _ _).mono ?_
          rintro e w' ⟨rfl, m1, rfl⟩
          go_wp2_with fail
          refine (mul_any _ _ _ _ _).mono ?_
          rintro e w' ⟨rfl, m2, rfl⟩
          go_wp2
          go_step3
          refine ⟨.inr ⟨rfl, k, b / 2, cmul (cmul x x) (p, q), Fr.mk' .., hh, hp, hle, HX.out, ⟨_, rfl⟩⟩, ?_⟩
          rw [HMU.out]
          show (b / 2).toNat < b.toNat
          omega
        | false =>
          rw [htb] at ht
          rw [if_neg (by rw [htb]; decide)] at hx
          have HX := Lib.hid hx
          clear hx htb
          go_wp2_with fail
          refine (mul_any _ _ _ _ _).mono ?_
          rintro e w' ⟨rfl, m1, rfl⟩
          go_wp2
          go_step3
          refine ⟨.inr ⟨rfl, k, b / 2, cmul x x, Fr.mk' .., hh, hp, hle, HX.out, ⟨_, rfl⟩⟩, ?_⟩
          rw [HMU.out]
          show (b / 2).toNat < b.toNat
          omega
theorem power_low (p q : Nat) (n : Int) (w : World) (hn : n < 1) :
    Calls Try.prog 27 #[.complex .f64 p q, .int .i64 n] w fun e w' => e = .returned (.complex .f64 4607182418800017408 0) ∧ w = w' := by
  have hm : n ≤ 4096 := by omega
  go_enter Try.func27, Try.ntmps27
  go_wp2
  go_step3
  go_wp2
  rw [Exit.noGoto_ret]
  go_ret
  exact ⟨rfl, rfl⟩
end Go.Proofs.Ytogejpepaggagaa.Cx
