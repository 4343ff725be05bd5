/-
  Decimals, in plain lists: a number's text is read as the number; how it begins.
-/
import Derived.Lib.ItoaNum
import Derived.Lib.ItoaMem
import Derived.Lib.ParseIntB
import Derived.Lib.ItoaLen
namespace Go.Proofs.YtdgclpgjoanimaaDoor.Dc
open Go.Lib
theorem dig_nat {d : Nat} (h : d < 10) : (UInt8.ofNat (48 + d)).toNat = 48 + d := by
  rw [UInt8.toNat_ofNat_of_lt' (by simp [UInt8.size]; omega)]
theorem parse_app (M : Nat) : ∀ (l : List UInt8) (acc u : Nat) (r : List UInt8), parseUintM M acc l = .ok u → parseUintM M acc (l ++ r) = parseUintM M u r
  | [], acc, u, r, h => by
    simp only [parseUintM, NumEnd.ok.injEq] at h
    rw [h]; rfl
  | c :: l, acc, u, r, h => by
    rw [List.cons_append]
    rw [parseUintM] at h
    rw [parseUintM]
    split at h
    · rename_i hc
      rw [if_pos hc]
      split at h
      · cases h
      · rename_i h1
        rw [if_neg h1]
        split at h
        · cases h
        · rename_i h2
          rw [if_neg h2]
          exact parse_app M l _ u r h
    · cases h
theorem parse_dec (u : Nat) (hu : u ≤ 18446744073709551615) : parseUintM 18446744073709551615 0 (decDigits u) = .ok u := by
  induction u using Nat.strongRecOn with
  | ind u ih =>
    unfold decDigits
    split
    · rename_i h
      unfold parseUintM
      rw [dig_nat h, if_pos ⟨by omega, by omega⟩, if_neg (by omega), if_neg (by omega)]
      unfold parseUintM
      congr 1
      omega
    · rename_i h
      rw [parse_app _ _ _ _ _ (ih (u / 10) (by omega) (by omega))]
      unfold parseUintM
      have hd : u % 10 < 10 := by omega
      rw [dig_nat hd, if_pos ⟨by omega, by omega⟩, if_neg (by omega), if_neg (by omega)]
      unfold parseUintM
      congr 1
      omega
theorem dec_ne (u : Nat) : decDigits u ≠ [] := by
  unfold decDigits
  split <;> simp
/-- A decimal begins with a digit. -/
theorem dec_head (u : Nat) : ∃ c r, decDigits u = c :: r ∧ 48 ≤ c.toNat ∧ c.toNat ≤ 57 := by
  induction u using Nat.strongRecOn with
  | ind u ih =>
    unfold decDigits
    split
    · rename_i h
      exact ⟨_, _, rfl, by rw [dig_nat h]; omega, by rw [dig_nat h]; omega⟩
    · rename_i h
      obtain ⟨c, r, e, h1, h2⟩ := ih (u / 10) (by omega)
      exact ⟨c, r ++ [UInt8.ofNat (48 + u % 10)], by rw [e]; rfl, h1, h2⟩
theorem itoa_head (n : Int) : ∃ c r, itoa n = c :: r ∧ (c.toNat = 45 ∨ (48 ≤ c.toNat ∧ c.toNat ≤ 57)) := by
  unfold itoa
  split
  · exact ⟨_, _, rfl, .inl rfl⟩
  · obtain ⟨c, r, e, h1, h2⟩ := dec_head n.toNat
    exact ⟨c, r, e, .inr ⟨h1, h2⟩⟩
theorem parse_itoa (n : Int) (h0 : -9223372036854775808 ≤ n) (h1 : n ≤ 9223372036854775807) : parseIntB 64 (itoa n) = .ok n := by
  unfold itoa
  split
  · rename_i h
    unfold parseIntB
    dsimp only
    rw [if_pos (.inr rfl)]
    unfold parseUintB
    rw [if_neg (dec_ne _), show 2 ^ 64 - 1 = 18446744073709551615 from rfl, parse_dec n.natAbs (by omega)]
    dsimp only
    rw [if_neg (by intro hh; exact hh.1 rfl), if_neg (by intro hh; have := hh.2; rw [show (2 : Nat) ^ (64 - 1) = 9223372036854775808 from rfl] at this; omega), if_pos (show (UInt8.toNat 45) = 45 from rfl)]
    congr 1
    omega
  · rename_i h
    obtain ⟨c, r, e, h2, h3⟩ := dec_head n.toNat
    have hp := parse_dec n.toNat (by omega)
    rw [e] at hp ⊢
    unfold parseIntB
    dsimp only
    rw [if_neg (by omega)]
    unfold parseUintB
    rw [if_neg (by simp), show 2 ^ 64 - 1 = 18446744073709551615 from rfl, hp]
    dsimp only
    rw [if_neg (by intro hh; have := hh.2; rw [show (2 : Nat) ^ (64 - 1) = 9223372036854775808 from rfl] at this; omega), if_neg (by intro hh; have := hh.1; omega), if_neg (by omega)]
    congr 1
    omega
theorem itoa_inj {a b : Int} (ha : -9223372036854775808 ≤ a ∧ a ≤ 9223372036854775807) (hb : -9223372036854775808 ≤ b ∧ b ≤ 9223372036854775807) (h : itoa a = itoa b) : a = b := by
  have h1 := parse_itoa a ha.1 ha.2
  have h2 := parse_itoa b hb.1 hb.2
  rw [h, h2] at h1
  injection h1 with h1
  exact h1.symm
end Go.Proofs.YtdgclpgjoanimaaDoor.Dc
