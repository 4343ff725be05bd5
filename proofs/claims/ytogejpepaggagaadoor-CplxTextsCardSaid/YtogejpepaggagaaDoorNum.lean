/- Plain facts on IEEE doubles: whole numbers below 2^53 in size are added, multiplied and compared exactly. -/
import Derived.Laws.FloatArith
import Derived.Deep.Quiet
namespace Go.Proofs.YtogejpepaggagaaDoor.Cx
open Ieee Ieee.Datum

theorem read_word (s : Bool) (rung : Nat) (h : rung < 9223372036854775808) : double.read (double.word s rung) =
    if rung < 4503599627370496 then .number s rung (-1074)
    else if rung < 9218868437227405312 then .number s (4503599627370496 + rung % 4503599627370496) (-1074 + (rung / 4503599627370496 - 1 : Nat))
    else if rung = 9218868437227405312 then .infinity s else .nan s (rung - 9218868437227405312) := by
  have hb : double.binade = 4503599627370496 := by decide
  have hi : double.infRung = 9218868437227405312 := by decide
  have hs : double.signWeight = 9223372036854775808 := by decide
  have hl : double.leastPlace = -1074 := by decide
  unfold Format.read Format.word
  simp only [hb, hi, hs, hl]
  cases s
  · have e1 : rung / 9223372036854775808 = 0 := Nat.div_eq_of_lt h
    have e2 : rung % 9223372036854775808 = rung := Nat.mod_eq_of_lt h
    simp [e1, e2]
  · have e1 : (9223372036854775808 + rung) / 9223372036854775808 = 1 := by omega
    have e2 : (9223372036854775808 + rung) % 9223372036854775808 = rung := by omega
    simp [e1, e2]

theorem read_nearest (s : Bool) (K L : Nat) (hL : L ≤ 52) (hK1 : 4503599627370496 ≤ K) (hK2 : K < 9007199254740992) :
    double.read (double.word s (min (((L : Int) - 52 - -1074).toNat * 4503599627370496 + K) 9218868437227405312)) = .number s K (-((52 - L : Nat) : Int)) := by
  have e1 : ((L : Int) - 52 - -1074).toNat = L + 1022 := by omega
  have g1 : (L + 1022) * 4503599627370496 + K < 9223372036854775808 := by omega
  have g2 : ¬ (L + 1022) * 4503599627370496 + K < 4503599627370496 := by omega
  have g3 : (L + 1022) * 4503599627370496 + K < 9218868437227405312 := by omega
  have e2 : min ((L + 1022) * 4503599627370496 + K) 9218868437227405312 = (L + 1022) * 4503599627370496 + K := Nat.min_eq_left (Nat.le_of_lt g3)
  have e3 : ((L + 1022) * 4503599627370496 + K) % 4503599627370496 = K - 4503599627370496 := by omega
  have e4 : ((L + 1022) * 4503599627370496 + K) / 4503599627370496 = L + 1023 := by omega
  have e5 : 4503599627370496 + (K - 4503599627370496) = K := by omega
  have e6 : -1074 + ((L + 1023 - 1 : Nat) : Int) = -((52 - L : Nat) : Int) := by omega
  rw [e1, e2, read_word s _ g1, if_neg g2, if_pos g3, e3, e4, e5, e6]

/-- The word x stands for the whole number n. -/
def Is (x : Nat) (n : Int) : Prop := ∃ (s : Bool) (m i : Nat), double.read x = .number s m (-(i : Int)) ∧ signed s m 0 = n * 2 ^ i

theorem signed_zero (s : Bool) (m : Nat) : signed s m 0 = if s then -(m : Int) else m := by simp [signed]
theorem signed_up (s : Bool) (m u : Nat) : signed s m u = signed s m 0 * 2 ^ u := by
  unfold signed
  cases s <;> simp [Nat.shiftLeft_eq, Int.neg_mul]
theorem natAbs_of (s : Bool) (m i : Nat) (n : Int) (h : signed s m 0 = n * 2 ^ i) : m = n.natAbs * 2 ^ i := by
  have h2 : (signed s m 0).natAbs = m := by rw [signed_zero]; cases s <;> simp
  rw [h] at h2
  rw [← h2, Int.natAbs_mul]
  rw [Int.natAbs_pow]; rfl

theorem log2_lt (a : Nat) (h0 : a ≠ 0) (h : a < 9007199254740992) : a.log2 ≤ 52 := by
  have := (Nat.log2_lt h0 (k := 53)).2 (by simpa using h)
  omega
theorem log2_mul (a i : Nat) (h0 : a ≠ 0) : (a * 2 ^ i).log2 = a.log2 + i := by
  induction i with
  | zero => simp
  | succ i ih =>
    have : a * 2 ^ (i + 1) = 2 * (a * 2 ^ i) := by rw [Nat.pow_succ]; rw [← Nat.mul_assoc, Nat.mul_comm]
    rw [this, Nat.log2_two_mul (by
      intro h
      rcases Nat.mul_eq_zero.1 h with h | h
      · exact h0 h
      · have := Nat.two_pow_pos i; omega), ih]
    omega

theorem cut_exact (neg : Bool) (b d : Nat) (hb : b ≠ 0) : Toward.even.cut neg (b * 2 ^ d) d = b := by
  unfold Toward.cut
  have hm : min d ((b * 2 ^ d).log2 + 2) = d := by rw [log2_mul b d hb]; omega
  have hp : 0 < 2 ^ d := Nat.two_pow_pos d
  have h1 : 1 <<< min d ((b * 2 ^ d).log2 + 2) = 2 ^ d := by rw [hm, Nat.shiftLeft_eq, Nat.one_mul]
  simp only [h1, Nat.mul_div_cancel _ hp, Nat.mul_mod_left]
  have h2 : ((2 ^ d : Nat) == 0) = false := beq_eq_false_iff_ne.2 (by omega)
  have h3 : decide (2 ^ d < 2 * 0) = false := by simp
  have h4 : (2 ^ d == 2 * 0) = false := by simp
  rw [h3, h4]; simp

theorem nearest_is (s : Bool) (m i : Nat) (n : Int) (h : signed s m 0 = n * 2 ^ i) (hn : n.natAbs < 9007199254740992) : Is (double.nearest s m (-(i : Int))) n := by
  have hb : double.binade = 4503599627370496 := by decide
  have hi : double.infRung = 9218868437227405312 := by decide
  have hl : double.leastPlace = -1074 := by decide
  have hf : double.fractionBits = 52 := rfl
  have hm := natAbs_of s m i n h
  have hp : 0 < 2 ^ i := Nat.two_pow_pos i
  by_cases hz : n.natAbs = 0
  · have hn0 : n = 0 := by omega
    have hm0 : m = 0 := by rw [hm, hz]; simp
    subst hm0 hn0
    refine ⟨s, 0, 1074, ?_, by rw [signed_zero, Int.zero_mul]; cases s <;> rfl⟩
    unfold Format.nearest
    rw [if_pos rfl, read_word s 0 (by omega)]
    rfl
  · have hm1 : m ≠ 0 := by
      rw [hm]; intro h0
      rcases Nat.mul_eq_zero.1 h0 with h0 | h0 <;> omega
    have hL := log2_lt n.natAbs hz hn
    have hlog : m.log2 = n.natAbs.log2 + i := by rw [hm]; exact log2_mul _ _ hz
    obtain ⟨hlo, hhi⟩ : 2 ^ n.natAbs.log2 ≤ n.natAbs ∧ n.natAbs < 2 ^ (n.natAbs.log2 + 1) := ⟨Nat.log2_self_le hz, Nat.lt_log2_self⟩
    generalize hLL : n.natAbs.log2 = L at *
    have hlast : max (-(i : Int) + (m.log2 : Int) - (52 : Nat)) (-1074) = (L : Int) - 52 := by rw [hlog]; omega
    have hK : Toward.even.cut s (m <<< (-(i : Int) - ((L : Int) - 52)).toNat) (((L : Int) - 52) - -(i : Int)).toNat = n.natAbs * 2 ^ (52 - L) := by
      rw [Nat.shiftLeft_eq]
      by_cases hc : i ≤ 52 - L
      · have e1 : (-(i : Int) - ((L : Int) - 52)).toNat = 52 - L - i := by omega
        have e2 : (((L : Int) - 52) - -(i : Int)).toNat = 0 := by omega
        rw [e1, e2, hm]
        have e3 : n.natAbs * 2 ^ i * 2 ^ (52 - L - i) = n.natAbs * 2 ^ (52 - L) := by
          rw [Nat.mul_assoc, ← Nat.pow_add]; congr 2; omega
        rw [e3]
        have := cut_exact s (n.natAbs * 2 ^ (52 - L)) 0 (by
          intro h0
          rcases Nat.mul_eq_zero.1 h0 with h0 | h0
          · omega
          · have := Nat.two_pow_pos (52 - L); omega)
        simpa using this
      · have e1 : (-(i : Int) - ((L : Int) - 52)).toNat = 0 := by omega
        have e2 : (((L : Int) - 52) - -(i : Int)).toNat = i - (52 - L) := by omega
        rw [e1, e2, hm]
        have e3 : n.natAbs * 2 ^ i * 2 ^ 0 = n.natAbs * 2 ^ (52 - L) * 2 ^ (i - (52 - L)) := by
          rw [Nat.pow_zero, Nat.mul_one, Nat.mul_assoc, ← Nat.pow_add]; congr 2; omega
        rw [e3]
        exact cut_exact s _ _ (by
          intro h0
          rcases Nat.mul_eq_zero.1 h0 with h0 | h0
          · omega
          · have := Nat.two_pow_pos (52 - L); omega)
    have hK1 : 4503599627370496 ≤ n.natAbs * 2 ^ (52 - L) := by
      have := Nat.mul_le_mul_right (2 ^ (52 - L)) hlo
      rw [← Nat.pow_add] at this
      have e : L + (52 - L) = 52 := by omega
      rw [e] at this
      simpa using this
    have hK2 : n.natAbs * 2 ^ (52 - L) < 9007199254740992 := by
      have := Nat.mul_lt_mul_of_pos_right hhi (Nat.two_pow_pos (52 - L))
      rw [← Nat.pow_add] at this
      have e : L + 1 + (52 - L) = 53 := by omega
      rw [e] at this
      simpa using this
    refine ⟨s, n.natAbs * 2 ^ (52 - L), 52 - L, ?_, ?_⟩
    · unfold Format.nearest
      rw [if_neg hm1]
      simp only [hb, hi, hl, hf, hlast, hK]
      exact read_nearest s _ L hL hK1 hK2
    · have hsg : signed s m 0 = (if s then -1 else 1) * ((n.natAbs * 2 ^ i : Nat) : Int) := by
        rw [signed_zero, hm]; cases s <;> simp
      rw [hsg] at h
      have hp' : (2 : Int) ^ i ≠ 0 := by
        exact Int.ne_of_gt (Int.pow_pos (m := i) (show (0 : Int) < 2 by decide))
      have h2 : (if s = true then (-1 : Int) else 1) * (n.natAbs : Int) = n := by
        rw [Int.natCast_mul, ← Int.mul_assoc] at h
        refine Int.eq_of_mul_eq_mul_right hp' ?_
        rw [← h]; simp
      rw [signed_zero]
      have e7 : ((n.natAbs * 2 ^ (52 - L) : Nat) : Int) = (n.natAbs : Int) * 2 ^ (52 - L) := by rw [Int.natCast_mul, Int.natCast_pow]; rfl
      rw [e7]
      cases s
      · rw [if_neg (by simp)] at h2 ⊢
        rw [Int.one_mul] at h2
        rw [h2]
      · rw [if_pos rfl] at h2 ⊢
        rw [Int.neg_mul, Int.one_mul] at h2
        rw [← Int.neg_mul, h2]

theorem of_int (n : Int) (hn : n.natAbs < 9007199254740992) : Is (double.write (.number (decide (n < 0)) n.natAbs 0)) n := by
  have := nearest_is (decide (n < 0)) n.natAbs 0 n (by
    rw [signed_zero]
    by_cases h : n < 0 <;> simp [h] <;> omega) hn
  exact this

theorem add_is {x y : Nat} {a b : Int} (hx : Is x a) (hy : Is y b) (h : (a + b).natAbs < 9007199254740992) : ∃ r, double.add x y = some r ∧ Is r (a + b) := by
  obtain ⟨s, m, i, hx1, hx2⟩ := hx
  obtain ⟨t, n, j, hy1, hy2⟩ := hy
  unfold Format.add
  rw [hx1, hy1]
  have hmin : min (-(i : Int)) (-(j : Int)) = -((max i j : Nat) : Int) := by omega
  have e1 : (-(i : Int) - -((max i j : Nat) : Int)).toNat = max i j - i := by omega
  have e2 : (-(j : Int) - -((max i j : Nat) : Int)).toNat = max i j - j := by omega
  have htot : signed s m (max i j - i) + signed t n (max i j - j) = (a + b) * 2 ^ (max i j) := by
    rw [signed_up s, signed_up t, hx2, hy2, Int.mul_assoc, Int.mul_assoc, ← Int.pow_add, ← Int.pow_add, Int.add_mul]
    congr 3 <;> omega
  simp only [Datum.sum, hmin, e1, e2, htot, Option.map_some]
  refine ⟨_, rfl, ?_⟩
  refine nearest_is _ _ _ _ ?_ h
  rw [signed_zero]
  generalize (a + b) * 2 ^ (max i j) = T
  by_cases h0 : T = 0
  · subst h0; simp
  · by_cases h1 : T < 0 <;> simp [h0, h1] <;> omega

theorem opp_is {x : Nat} {a : Int} (hx : Is x a) : ∃ (s : Bool) (m i : Nat), (double.read x).opposite = .number s m (-(i : Int)) ∧ signed s m 0 = (-a) * 2 ^ i := by
  obtain ⟨s, m, i, hx1, hx2⟩ := hx
  refine ⟨!s, m, i, by rw [hx1]; rfl, ?_⟩
  rw [Int.neg_mul, ← hx2, signed_zero, signed_zero]
  cases s <;> simp

theorem sub_is {x y : Nat} {a b : Int} (hx : Is x a) (hy : Is y b) (h : (a - b).natAbs < 9007199254740992) : ∃ r, double.sub x y = some r ∧ Is r (a - b) := by
  obtain ⟨s, m, i, hx1, hx2⟩ := hx
  obtain ⟨t, n, j, hy1, hy2⟩ := opp_is hy
  unfold Format.sub
  rw [hx1, hy1]
  have hmin : min (-(i : Int)) (-(j : Int)) = -((max i j : Nat) : Int) := by omega
  have e1 : (-(i : Int) - -((max i j : Nat) : Int)).toNat = max i j - i := by omega
  have e2 : (-(j : Int) - -((max i j : Nat) : Int)).toNat = max i j - j := by omega
  have htot : signed s m (max i j - i) + signed t n (max i j - j) = (a - b) * 2 ^ (max i j) := by
    rw [signed_up s, signed_up t, hx2, hy2, Int.mul_assoc, Int.mul_assoc, ← Int.pow_add, ← Int.pow_add, Int.sub_eq_add_neg, Int.add_mul]
    congr 3 <;> omega
  simp only [Datum.sum, hmin, e1, e2, htot, Option.map_some]
  refine ⟨_, rfl, ?_⟩
  refine nearest_is _ _ _ _ ?_ h
  rw [signed_zero]
  generalize (a - b) * 2 ^ (max i j) = T
  by_cases h0 : T = 0
  · subst h0; simp
  · by_cases h1 : T < 0 <;> simp [h0, h1] <;> omega

theorem mul_is {x y : Nat} {a b : Int} (hx : Is x a) (hy : Is y b) (h : (a * b).natAbs < 9007199254740992) : ∃ r, double.mul x y = some r ∧ Is r (a * b) := by
  obtain ⟨s, m, i, hx1, hx2⟩ := hx
  obtain ⟨t, n, j, hy1, hy2⟩ := hy
  unfold Format.mul
  rw [hx1, hy1]
  simp only [Datum.product, Option.map_some]
  refine ⟨_, rfl, ?_⟩
  have e : -(i : Int) + -(j : Int) = -((i + j : Nat) : Int) := by omega
  rw [e]
  refine nearest_is _ _ _ _ ?_ h
  have : signed (s ^^ t) (m * n) 0 = signed s m 0 * signed t n 0 := by
    rw [signed_zero, signed_zero, signed_zero]
    cases s <;> cases t <;> simp [Int.natCast_mul, Int.neg_mul, Int.mul_neg]
  rw [this, hx2, hy2, Int.pow_add]
  rw [Int.mul_assoc, Int.mul_assoc]
  congr 1
  rw [← Int.mul_assoc, Int.mul_comm (2 ^ i) b, Int.mul_assoc]

theorem order_is {x y : Nat} {a b : Int} (hx : Is x a) (hy : Is y b) : double.order x y = some (compare a b) := by
  obtain ⟨s, m, i, hx1, hx2⟩ := hx
  obtain ⟨t, n, j, hy1, hy2⟩ := hy
  unfold Format.order
  rw [hx1, hy1]
  have hmin : min (-(i : Int)) (-(j : Int)) = -((max i j : Nat) : Int) := by omega
  have e1 : (-(i : Int) - -((max i j : Nat) : Int)).toNat = max i j - i := by omega
  have e2 : (-(j : Int) - -((max i j : Nat) : Int)).toNat = max i j - j := by omega
  have h1 : signed s m (max i j - i) = a * 2 ^ (max i j) := by
    rw [signed_up s, hx2, Int.mul_assoc, ← Int.pow_add]; congr 2; omega
  have h2 : signed t n (max i j - j) = b * 2 ^ (max i j) := by
    rw [signed_up t, hy2, Int.mul_assoc, ← Int.pow_add]; congr 2; omega
  simp only [Datum.order, hmin, e1, e2, h1, h2]
  have hp : (0 : Int) < 2 ^ (max i j) := Int.pow_pos (by omega)
  congr 1
  simp only [compare, compareOfLessAndEq]
  have k1 : a * 2 ^ (max i j) < b * 2 ^ (max i j) ↔ a < b := Int.mul_lt_mul_right hp
  have k2 : a * 2 ^ (max i j) = b * 2 ^ (max i j) ↔ a = b := by
    refine ⟨fun h => Int.eq_of_mul_eq_mul_right (by omega) h, fun h => by rw [h]⟩
  simp only [k1, k2]

theorem order_eq_is {x y : Nat} {a b : Int} (hx : Is x a) (hy : Is y b) : (double.order x y == some Ordering.eq) = decide (a = b) := by
  rw [order_is hx hy]
  simp only [compare, compareOfLessAndEq]
  by_cases h1 : a < b
  · have : a ≠ b := by omega
    simp [h1, this]
  · by_cases h2 : a = b
    · subst h2; simp
    · simp [h1, h2]

/-! ### Words that are no numbers -/

def nanC : Nat := 9221120237041090561

theorem double_read (x : Nat) : double.read x =
    if x % 9223372036854775808 < 4503599627370496 then .number (x / 9223372036854775808 % 2 == 1) (x % 9223372036854775808) (-1074)
    else if x % 9223372036854775808 < 9218868437227405312 then .number (x / 9223372036854775808 % 2 == 1) (4503599627370496 + x % 9223372036854775808 % 4503599627370496) (-1074 + (x % 9223372036854775808 / 4503599627370496 - 1 : Nat))
    else if x % 9223372036854775808 = 9218868437227405312 then .infinity (x / 9223372036854775808 % 2 == 1) else .nan (x / 9223372036854775808 % 2 == 1) (x % 9223372036854775808 - 9218868437227405312) := by
  have hb : double.binade = 4503599627370496 := by decide
  have hi : double.infRung = 9218868437227405312 := by decide
  have hs : double.signWeight = 9223372036854775808 := by decide
  have hl : double.leastPlace = -1074 := by decide
  unfold Format.read
  simp only [hb, hi, hs, hl]

theorem isNaN_of (x : Nat) (h : 9218868437227405312 < x % 9223372036854775808) : (double.read x).isNaN = true := by
  rw [double_read, if_neg (by omega), if_neg (by omega), if_neg (by omega)]; rfl

theorem nanC_isNaN : (double.read nanC).isNaN = true := isNaN_of _ (by decide)

theorem order_nan (x : Nat) (h : (double.read x).isNaN = true) (y : Nat) : double.order x y = none ∧ double.order y x = none := by
  unfold Format.order
  cases hx : double.read x with
  | number s m i => rw [hx] at h; cases h
  | infinity s => rw [hx] at h; cases h
  | nan s f => exact ⟨rfl, by cases double.read y <;> rfl⟩

theorem order_self (x : Nat) (h : (double.read x).isNaN = false) : double.order x x = some .eq := by
  unfold Format.order
  cases hx : double.read x with
  | number s m i => simp [Datum.order]
  | infinity s => simp [Datum.order]
  | nan s f => rw [hx] at h; cases h

theorem neq_self (x : Nat) : (double.order x x != some .eq) = (double.read x).isNaN := by
  cases h : (double.read x).isNaN with
  | true => rw [(order_nan x h x).1]; rfl
  | false => rw [order_self x h]; rfl

theorem write_not_nan (d : Datum) (h : d.isNaN = false) : (double.read (double.write d)).isNaN = false := by
  have hi : double.infRung = 9218868437227405312 := by decide
  have key : ∀ (s : Bool) (r : Nat), r ≤ 9218868437227405312 → (double.read (double.word s r)).isNaN = false := by
    intro s r hr
    rw [read_word s r (by omega)]
    split
    · rfl
    · split
      · rfl
      · split
        · rfl
        · omega
  cases d with
  | nan s f => cases h
  | infinity s => exact key s _ (by rw [hi]; exact Nat.le_refl _)
  | number s m p =>
    show (double.read (double.nearest s m p)).isNaN = false
    unfold Format.nearest
    dsimp only
    split
    · exact key s 0 (Nat.zero_le _)
    · exact key s _ (by rw [hi]; exact Nat.min_le_right _ _)

theorem sum_not_nan (a b : Datum) {d : Datum} (h : a.sum b = some d) : d.isNaN = false := by
  cases a <;> cases b <;> simp only [Datum.sum] at h
  all_goals first
    | (cases h; done)
    | (cases h; rfl)
    | (split at h
       · cases h; rfl
       · cases h)
theorem product_not_nan (a b : Datum) {d : Datum} (h : a.product b = some d) : d.isNaN = false := by
  cases a <;> cases b <;> simp only [Datum.product] at h
  all_goals first
    | (cases h; done)
    | (cases h; rfl)
    | (split at h
       · cases h
       · cases h; rfl)
theorem sum_nan (a b : Datum) (h : a.isNaN = true ∨ b.isNaN = true) : a.sum b = none := by
  rcases h with h | h
  · cases a <;> first | (cases h; done) | rfl
  · cases b <;> first | (cases h; done) | (cases a <;> rfl)
theorem product_nan (a b : Datum) (h : a.isNaN = true ∨ b.isNaN = true) : a.product b = none := by
  rcases h with h | h
  · cases a <;> first | (cases h; done) | rfl
  · cases b <;> first | (cases h; done) | (cases a <;> rfl)
theorem opp_isNaN (a : Datum) : a.opposite.isNaN = a.isNaN := by cases a <;> rfl

theorem op_not_nan {op : BinOp} {x y r : Nat} (hop : op = .add ∨ op = .sub ∨ op = .mul) (h : floatBits op .f64 x y = some r) : (double.read r).isNaN = false := by
  have key : ∀ o : Option Datum, (∀ d, o = some d → d.isNaN = false) → o.map double.write = some r → (double.read r).isNaN = false := by
    intro o ho hr
    cases o with
    | none => cases hr
    | some d => cases hr; exact write_not_nan d (ho d rfl)
  rcases hop with rfl | rfl | rfl
  · exact key _ (fun d hd => sum_not_nan _ _ hd) h
  · exact key _ (fun d hd => sum_not_nan _ _ hd) h
  · exact key _ (fun d hd => product_not_nan _ _ hd) h

theorem op_nan {op : BinOp} {x y : Nat} (hop : op = .add ∨ op = .sub ∨ op = .mul) (h : (double.read x).isNaN = true ∨ (double.read y).isNaN = true) : floatBits op .f64 x y = none := by
  rcases hop with rfl | rfl | rfl
  · show ((double.read x).sum (double.read y)).map double.write = none
    rw [sum_nan _ _ h]; rfl
  · show ((double.read x).sum (double.read y).opposite).map double.write = none
    rw [sum_nan _ _ (by rw [opp_isNaN]; exact h)]; rfl
  · show ((double.read x).product (double.read y)).map double.write = none
    rw [product_nan _ _ h]; rfl

/-- A part that has come about, out of what an operation gives (none: no number). -/
def res (o : Option Nat) : Nat := o.getD nanC
def cl (x : Nat) : Nat := if (FloatKind.f64.format.order x x != some .eq) = true then nanC else x
theorem cl_nan (x : Nat) (h : (double.read x).isNaN = true) : cl x = nanC := if_pos (by rw [← h]; exact neq_self x)
theorem cl_not (x : Nat) (h : (double.read x).isNaN = false) : cl x = x := if_neg (by
  have e : (FloatKind.f64.format.order x x != some .eq) = false := (neq_self x).trans h
  rw [e]; decide)

/-- The bits of a NaN that the tape gives. -/
def nanB (x y : Nat) (w : World) : Nat := (Question.nanBits .f64 x y).cut (w.tape w.drawn (.nanBits .f64 x y))
theorem nanB_isNaN (x y : Nat) (w : World) : (double.read (nanB x y w)).isNaN = true := by
  refine isNaN_of _ ?_
  unfold nanB Question.cut
  generalize w.tape w.drawn (.nanBits .f64 x y) = t
  dsimp only
  simp only [Nat.reducePow, Nat.reduceSub]
  have h1 : t % 2 < 2 := Nat.mod_lt _ (by omega)
  have h2 : t / 2 % 4503599627370495 < 4503599627370495 := Nat.mod_lt _ (by omega)
  generalize t % 2 = a at *
  generalize t / 2 % 4503599627370495 = r at *
  have h3 : a = 0 ∨ a = 1 := by omega
  rcases h3 with rfl | rfl <;> omega

def fop (op : BinOp) (x y : Nat) (w : World) : Nat := (floatBits op .f64 x y).getD (nanB x y w)
def fopW (op : BinOp) (x y : Nat) (w : World) : World := if (floatBits op .f64 x y).isSome then w else w.drew
theorem run_fop {P : Program} (op : BinOp) (hop : op = .add ∨ op = .sub ∨ op = .mul) (t : TypeId) (x y : Nat) (w : World) :
    (binOp op t (.float .f64 x) (.float .f64 y)).run P w = .ok (.float .f64 (fop op x y w)) (fopW op x y w) := by
  cases h : floatBits op .f64 x y with
  | some r => rw [run_float_arith w op t .f64 x y r h]; simp [fop, fopW, h]
  | none =>
    rcases hop with rfl | rfl | rfl
    all_goals
      unfold floatBits at h
      simp only at h
      simp only [fop, fopW, floatBits, h, Option.getD_none, Option.isSome_none, Bool.false_eq_true, if_false]
      simp only [binOp, Op.floatArith, h, pure_bind]
      rfl
theorem fopW_drewN (op : BinOp) (x y : Nat) (w : World) : ∃ n, fopW op x y w = w.drewN n := by
  unfold fopW
  split
  · exact ⟨0, rfl⟩
  · exact ⟨1, rfl⟩

theorem cl_fop (op : BinOp) (hop : op = .add ∨ op = .sub ∨ op = .mul) (x y : Nat) (w : World) : cl (fop op x y w) = res (floatBits op .f64 x y) := by
  unfold fop res
  cases h : floatBits op .f64 x y with
  | some r => exact cl_not _ (op_not_nan hop h)
  | none => exact cl_nan _ (nanB_isNaN _ _ _)

/-- An operation on what two operations give. -/
def opq (op : BinOp) (a b : Option Nat) : Option Nat := a.bind fun u => b.bind fun v => floatBits op .f64 u v
theorem opq_some (op : BinOp) (u v : Nat) : opq op (some u) (some v) = floatBits op .f64 u v := rfl

theorem cl_fop2 (op o1 o2 : BinOp) (hop : op = .add ∨ op = .sub ∨ op = .mul) (x y u v : Nat) (w w1 w2 : World) :
    cl (fop op (fop o1 x y w) (fop o2 u v w1) w2) = res (opq op (floatBits o1 .f64 x y) (floatBits o2 .f64 u v)) := by
  rw [cl_fop op hop]
  congr 1
  unfold fop opq
  cases h1 : floatBits o1 .f64 x y with
  | none => exact op_nan hop (.inl (nanB_isNaN _ _ _))
  | some a =>
    cases h2 : floatBits o2 .f64 u v with
    | none => exact op_nan hop (.inr (nanB_isNaN _ _ _))
    | some b => rfl
end Go.Proofs.YtogejpepaggagaaDoor.Cx
