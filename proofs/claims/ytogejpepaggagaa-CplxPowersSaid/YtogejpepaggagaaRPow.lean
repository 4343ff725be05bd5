/- The reference's Power is the plain power, too. -/
import Derived.Test.YtogejpepaggagaaPowW
namespace Go.Proofs.Ytogejpepaggagaa.Cx
open Go.RowKit
def R2 (p q : Nat) (n : Nat) (x : Nat × Nat) (t : Value) : Prop :=
  (t = .int .i64 (-1) ∧ x = power (p, q) n) ∨ (∃ m : Nat, t = .int .i64 (m : Int) ∧ m ≤ 12 ∧ pw (p, q) n (m + 1) x = power (p, q) n)
theorem log_le {n k : Nat} (h1 : 2 ^ k ≤ n) (hm : n ≤ 4096) : k ≤ 12 := by
  rcases Nat.lt_or_ge 12 k with h | h
  · have := Nat.pow_le_pow_right (show 0 < 2 by omega) h
    simp at this
    omega
  · exact h
theorem log_of {n k : Nat} (h1 : 2 ^ k ≤ n) (h2 : n / 2 ^ (k + 1) ≤ 0) : k = n.log2 := by
  have hp := Nat.two_pow_pos (k + 1)
  have h3 : n < 2 ^ (k + 1) := by
    rcases Nat.lt_or_ge n (2 ^ (k + 1)) with h | h
    · exact h
    · have := Nat.div_pos h hp; omega
  have hp := Nat.two_pow_pos k
  symm
  rw [Nat.log2_eq_iff (by omega)]
  exact ⟨h1, h3⟩
theorem and_one (n m : Nat) (hm : n ≤ 4096) : (Go.bits .and .i64 ((n : Int) / 2 ^ m) 1 == 1) = n.testBit m := by
  have e : (n : Int) / 2 ^ m = ((n / 2 ^ m : Nat) : Int) := by rw [Int.natCast_ediv, Int.natCast_pow]; rfl
  have hle : n / 2 ^ m ≤ n := Nat.div_le_self _ _
  have h := i64_and_nat (n / 2 ^ m) 1 (by omega) (by omega)
  rw [e]
  rw [show ((1 : Nat) : Int) = 1 from rfl] at h
  rw [h, Nat.testBit_eq_decide_div_mod_eq, Nat.and_one_is_mod]
  rw [Bool.eq_iff_iff]
  simp
  omega
theorem pw_step (a : Nat × Nat) (n k : Nat) (x : Nat × Nat) : pw a n (k + 1) x = pw a n k (if n.testBit k then cmul (cmul x x) a else cmul x x) := rfl
theorem R2.next {p q n m : Nat} {x : Nat × Nat} (hm : m ≤ 12) (h : pw (p, q) n m x = power (p, q) n) : R2 p q n x (.int .i64 ((m : Int) - 1)) := by
  cases m with
  | zero => exact .inl ⟨rfl, h⟩
  | succ m => exact .inr ⟨m, by congr 1; omega, by omega, h⟩
set_option maxHeartbeats 400000 in
theorem rpower_any (p q : Nat) (n : Nat) (w : World) (hn : 1 ≤ n) (hm : n ≤ 4096) :
    Calls Try.prog 29 #[.complex .f64 p q, .int .i64 (n : Int)] w fun e w' => e = .returned (.complex .f64 (power (p, q) n).1 (power (p, q) n).2) ∧ Dr w w' := by
  go_enter Try.func29, Try.ntmps29
  go_wp2
  go_loop [5] (fun t => ∃ k : Nat, t = .int .i64 (k : Int) ∧ k ≤ 12 ∧ 2 ^ k ≤ n) (fun t => (100 - intOf t).toNat)
  case atStart => exact ⟨0, rfl, by omega, by simpa using hn⟩
  case round =>
    obtain ⟨k, rfl, hk, hp⟩ := hrel
    have HP := Lib.hid hp
    clear hp
    go_wp2
    · go_round
      case rel =>
        have h : 0 < (n : Int) / 2 ^ (k + 1) := by assumption
        have h1 : 0 < n / 2 ^ (k + 1) := by
          have e : (n : Int) / 2 ^ (k + 1) = ((n / 2 ^ (k + 1) : Nat) : Int) := by rw [Int.natCast_ediv, Int.natCast_pow]; rfl
          omega
        have h2 : 2 ^ (k + 1) ≤ n := (Nat.div_pos_iff.1 h1).2
        exact ⟨k + 1, by go_num, log_le h2 hm, h2⟩
      case measure => simp [intOf]; omega
    · have h : (n : Int) / 2 ^ (k + 1) ≤ 0 := by assumption
      have hlog : k = n.log2 := log_of HP.out (by
        have e : (n : Int) / 2 ^ (k + 1) = ((n / 2 ^ (k + 1) : Nat) : Int) := by rw [Int.natCast_ediv, Int.natCast_pow]; rfl
        omega)
      have HK := Lib.hid hlog
      clear hlog h
      go_wp2
      go_loopw [6, 7] (fun x i wr => ∃ y : Nat × Nat, x = .complex .f64 y.1 y.2 ∧ R2 p q n y i ∧ Dr w wr) (fun _ i _ => (intOf i + 1).toNat)
      case atStart =>
        exact ⟨(p, q), rfl, R2.next hk (by rw [HK.out]; rfl), Dr.refl _⟩
      case round =>
        obtain ⟨y, rfl, hR, hD⟩ := hrel
        rcases hR with ⟨rfl, hy⟩ | ⟨m, rfl, hm12, hy⟩
        · have HY := Lib.hid hy
          clear hy
          go_wp2
          go_ret
          rw [← HY.out]
          exact ⟨rfl, hD⟩
        · rw [pw_step] at hy
          have ht := and_one n m hm
          obtain ⟨m0, rfl⟩ := hD
          cases hb : n.testBit m with
          | true =>
            rw [hb] at ht
            rw [if_pos hb] at hy
            have HY := Lib.hid hy
            clear hy hb
            go_wp2_with fail
            refine (rmul_any _ _ _ _ _).mono ?_
            rintro e w' ⟨rfl, m1, rfl⟩
            go_wp2_with fail
            refine (rmul_any _ _ _ _ _).mono ?_
            rintro e w' ⟨rfl, m2, rfl⟩
            go_wp2
            go_roundw
            case rel => exact ⟨cmul (cmul y y) (p, q), rfl, R2.next hm12 HY.out, _, rfl⟩
            case measure => simp [intOf]
          | false =>
            rw [hb] at ht
            rw [if_neg (by rw [hb]; decide)] at hy
            have HY := Lib.hid hy
            clear hy hb
            go_wp2_with fail
            refine (rmul_any _ _ _ _ _).mono ?_
            rintro e w' ⟨rfl, m1, rfl⟩
            go_wp2
            go_roundw
            case rel => exact ⟨cmul y y, rfl, R2.next hm12 HY.out, _, rfl⟩
            case measure => simp [intOf]
set_option maxHeartbeats 400000 in
theorem rpower_big (p q : Nat) (m0 : Int) (n : Nat) (w : World) (hm0 : 4096 < m0) (hn4 : n = 4096) :
    Calls Try.prog 29 #[.complex .f64 p q, .int .i64 m0] w fun e w' => e = .returned (.complex .f64 (power (p, q) n).1 (power (p, q) n).2) ∧ Dr w w' := by
  have hn : 1 ≤ n := by omega
  have hm : n ≤ 4096 := by omega
  have hlt : ¬ m0 < 1 := by omega
  have hlt' : ¬ m0 ≤ 4096 := by omega
  have H4 : Hid ((4096 : Int) = (n : Int)) := by rw [hn4]; exact rfl
  clear hn4
  go_enter Try.func29, Try.ntmps29
  go_wp2
  rw [H4.out]
  go_loop [5] (fun t => ∃ k : Nat, t = .int .i64 (k : Int) ∧ k ≤ 12 ∧ 2 ^ k ≤ n) (fun t => (100 - intOf t).toNat)
  case atStart => exact ⟨0, rfl, by omega, by simpa using hn⟩
  case round =>
    obtain ⟨k, rfl, hk, hp⟩ := hrel
    have HP := Lib.hid hp
    clear hp
    go_wp2
    · go_round
      case rel =>
        have h : 0 < (n : Int) / 2 ^ (k + 1) := by assumption
        have h1 : 0 < n / 2 ^ (k + 1) := by
          have e : (n : Int) / 2 ^ (k + 1) = ((n / 2 ^ (k + 1) : Nat) : Int) := by rw [Int.natCast_ediv, Int.natCast_pow]; rfl
          omega
        have h2 : 2 ^ (k + 1) ≤ n := (Nat.div_pos_iff.1 h1).2
        exact ⟨k + 1, by go_num, log_le h2 hm, h2⟩
      case measure => simp [intOf]; omega
    · have h : (n : Int) / 2 ^ (k + 1) ≤ 0 := by assumption
      have hlog : k = n.log2 := log_of HP.out (by
        have e : (n : Int) / 2 ^ (k + 1) = ((n / 2 ^ (k + 1) : Nat) : Int) := by rw [Int.natCast_ediv, Int.natCast_pow]; rfl
        omega)
      have HK := Lib.hid hlog
      clear hlog h
      go_wp2
      go_loopw [6, 7] (fun x i wr => ∃ y : Nat × Nat, x = .complex .f64 y.1 y.2 ∧ R2 p q n y i ∧ Dr w wr) (fun _ i _ => (intOf i + 1).toNat)
      case atStart =>
        exact ⟨(p, q), rfl, R2.next hk (by rw [HK.out]; rfl), Dr.refl _⟩
      case round =>
        obtain ⟨y, rfl, hR, hD⟩ := hrel
        rcases hR with ⟨rfl, hy⟩ | ⟨m, rfl, hm12, hy⟩
        · have HY := Lib.hid hy
          clear hy
          go_wp2
          go_ret
          rw [← HY.out]
          exact ⟨rfl, hD⟩
        · rw [pw_step] at hy
          have ht := and_one n m hm
          obtain ⟨m0, rfl⟩ := hD
          cases hb : n.testBit m with
          | true =>
            rw [hb] at ht
            rw [if_pos hb] at hy
            have HY := Lib.hid hy
            clear hy hb
            go_wp2_with fail
            refine (rmul_any _ _ _ _ _).mono ?_
            rintro e w' ⟨rfl, m1, rfl⟩
            go_wp2_with fail
            refine (rmul_any _ _ _ _ _).mono ?_
            rintro e w' ⟨rfl, m2, rfl⟩
            go_wp2
            go_roundw
            case rel => exact ⟨cmul (cmul y y) (p, q), rfl, R2.next hm12 HY.out, _, rfl⟩
            case measure => simp [intOf]
          | false =>
            rw [hb] at ht
            rw [if_neg (by rw [hb]; decide)] at hy
            have HY := Lib.hid hy
            clear hy hb
            go_wp2_with fail
            refine (rmul_any _ _ _ _ _).mono ?_
            rintro e w' ⟨rfl, m1, rfl⟩
            go_wp2
            go_roundw
            case rel => exact ⟨cmul y y, rfl, R2.next hm12 HY.out, _, rfl⟩
            case measure => simp [intOf]
theorem rpower_low (p q : Nat) (n : Int) (w : World) (hn : n < 1) :
    Calls Try.prog 29 #[.complex .f64 p q, .int .i64 n] w fun e w' => e = .returned (.complex .f64 4607182418800017408 0) ∧ w = w' := by
  have hm : n ≤ 4096 := by omega
  go_enter Try.func29, Try.ntmps29
  go_wp2
  go_ret
  exact ⟨rfl, rfl⟩
end Go.Proofs.Ytogejpepaggagaa.Cx
