/- Powers of complex words, plainly: by squares, from the exponent's highest bit on. -/
import Derived.Test.YtogejpepaggagaaNum
namespace Go.Proofs.Ytogejpepaggagaa.Cx

def cmul (x y : Nat × Nat) : Nat × Nat :=
  (res (opq .sub (floatBits .mul .f64 x.1 y.1) (floatBits .mul .f64 x.2 y.2)), res (opq .add (floatBits .mul .f64 x.1 y.2) (floatBits .mul .f64 x.2 y.1)))
/-- The bits below k of n are still to be done. -/
def pw (a : Nat × Nat) (n : Nat) : Nat → Nat × Nat → Nat × Nat
  | 0, x => x
  | k + 1, x => pw a n k (if n.testBit k then cmul (cmul x x) a else cmul x x)
def power (a : Nat × Nat) (n : Nat) : Nat × Nat := pw a n n.log2 a

def IsC (x : Nat × Nat) (a : Int × Int) : Prop := Is x.1 a.1 ∧ Is x.2 a.2
def zmul (x y : Int × Int) : Int × Int := (x.1 * y.1 - x.2 * y.2, x.1 * y.2 + x.2 * y.1)
def zpow (a : Int × Int) : Nat → Int × Int
  | 0 => (1, 0)
  | n + 1 => zmul (zpow a n) a
def BC (n : Nat) (x : Int × Int) : Prop := x.1.natAbs ≤ n ∧ x.2.natAbs ≤ n

theorem is_res {o : Option Nat} {n : Int} (h : ∃ r, o = some r ∧ Is r n) : Is (res o) n := by
  obtain ⟨r, rfl, h⟩ := h
  exact h
theorem abs_mul {a b : Int} {A B : Nat} (ha : a.natAbs ≤ A) (hb : b.natAbs ≤ B) : (a * b).natAbs ≤ A * B := by
  rw [Int.natAbs_mul]; exact Nat.mul_le_mul ha hb
theorem cmul_is {x y : Nat × Nat} {a b : Int × Int} (hx : IsC x a) (hy : IsC y b) (ha : BC 67108863 a) (hb : BC 67108863 b) : IsC (cmul x y) (zmul a b) := by
  constructor
  · have h1 := abs_mul ha.1 hb.1
    have h2 := abs_mul ha.2 hb.2
    obtain ⟨u, hu, hu'⟩ := mul_is hx.1 hy.1 (by omega)
    obtain ⟨v, hv, hv'⟩ := mul_is hx.2 hy.2 (by omega)
    have e1 : floatBits .mul .f64 x.1 y.1 = some u := hu
    have e2 : floatBits .mul .f64 x.2 y.2 = some v := hv
    simp only [cmul, e1, e2]
    exact is_res (sub_is hu' hv' (by omega))
  · have h1 := abs_mul ha.1 hb.2
    have h2 := abs_mul ha.2 hb.1
    obtain ⟨u, hu, hu'⟩ := mul_is hx.1 hy.2 (by omega)
    obtain ⟨v, hv, hv'⟩ := mul_is hx.2 hy.1 (by omega)
    have e1 : floatBits .mul .f64 x.1 y.2 = some u := hu
    have e2 : floatBits .mul .f64 x.2 y.1 = some v := hv
    simp only [cmul, e1, e2]
    exact is_res (add_is hu' hv' (by omega))

theorem zmul_assoc (a b c : Int × Int) : zmul (zmul a b) c = zmul a (zmul b c) := by
  simp only [zmul]
  refine Prod.ext ?_ ?_ <;> grind
theorem zmul_one (a : Int × Int) : zmul a (1, 0) = a := by simp [zmul]
theorem one_zmul (a : Int × Int) : zmul (1, 0) a = a := by simp [zmul]
theorem zpow_add (a : Int × Int) (m n : Nat) : zpow a (m + n) = zmul (zpow a m) (zpow a n) := by
  induction n with
  | zero => rw [Nat.add_zero]; exact (zmul_one _).symm
  | succ n ih => rw [← Nat.add_assoc]; show zmul (zpow a (m + n)) a = zmul (zpow a m) (zmul (zpow a n) a); rw [ih, zmul_assoc]
theorem zpow_one (a : Int × Int) : zpow a 1 = a := one_zmul a
theorem zmul_bd {m n : Nat} {a b : Int × Int} (ha : BC m a) (hb : BC n b) : BC (m * n + m * n) (zmul a b) := by
  have h1 := abs_mul ha.1 hb.1
  have h2 := abs_mul ha.2 hb.2
  have h3 := abs_mul ha.1 hb.2
  have h4 := abs_mul ha.2 hb.1
  constructor
  · simp only [zmul]; omega
  · simp only [zmul]; omega
theorem BC.le {m n : Nat} {a : Int × Int} (h : BC m a) (hmn : m ≤ n) : BC n a := ⟨Nat.le_trans h.1 hmn, Nat.le_trans h.2 hmn⟩
/-- Of parts not above A a power's parts are not above (2 A)^n. -/
theorem zpow_bd {A : Nat} {a : Int × Int} (ha : BC A a) (n : Nat) : BC ((2 * A) ^ n) (zpow a n) := by
  induction n with
  | zero => exact ⟨by show (1 : Int).natAbs ≤ _; simp, by show (0 : Int).natAbs ≤ _; simp⟩
  | succ n ih =>
    refine (zmul_bd ih ha).le ?_
    rw [Nat.pow_succ, Nat.mul_comm 2 A, ← Nat.mul_assoc]
    omega

theorem pw_is {a : Nat × Nat} {z : Int × Int} (ha : IsC a z) {A : Nat} (hA : BC A z) (n : Nat) (hn1 : 1 ≤ n) (hn : (2 * A) ^ (n - 1) ≤ 67108863) (hA1 : 1 ≤ 2 * A) (hA2 : A ≤ 67108863) :
    ∀ (k : Nat) (x : Nat × Nat) (m : Nat), IsC x (zpow z m) → m = n / 2 ^ k → IsC (pw a n k x) (zpow z n) := by
  intro k
  induction k with
  | zero => intro x m hx hm; simp at hm; subst hm; exact hx
  | succ k ih =>
    intro x m hx hm
    have hm2 : n / 2 ^ k = 2 * m + (n.testBit k).toNat := by
      rw [hm, Nat.pow_succ, ← Nat.div_div_eq_div_mul, Nat.testBit_eq_decide_div_mod_eq]
      generalize n / 2 ^ k = t
      by_cases h : t % 2 = 1 <;> simp [h] <;> omega
    have hle : n / 2 ^ k ≤ n := Nat.div_le_self _ _
    have bd : ∀ j, j ≤ n - 1 → BC 67108863 (zpow z j) := fun j hj => (zpow_bd hA j).le (Nat.le_trans (Nat.pow_le_pow_right hA1 hj) hn)
    have h2 : IsC (cmul x x) (zpow z (m + m)) := by
      rw [zpow_add]
      exact cmul_is hx hx (bd m (by omega)) (bd m (by omega))
    unfold pw
    cases hb : n.testBit k with
    | true =>
      rw [hb] at hm2
      simp at hm2
      rw [if_pos rfl]
      refine ih _ (m + m + 1) ?_ (by omega)
      exact cmul_is h2 ha (bd _ (by omega)) (hA.le hA2)
    | false =>
      rw [hb] at hm2
      simp at hm2
      rw [if_neg (by simp)]
      exact ih _ (m + m) h2 (by omega)
theorem log2_div (n : Nat) (hn : 1 ≤ n) : n / 2 ^ n.log2 = 1 := by
  have h1 := Nat.log2_self_le (n := n) (by omega)
  have h2 := Nat.lt_log2_self (n := n)
  rw [Nat.pow_succ] at h2
  refine Nat.le_antisymm ?_ ?_
  · exact Nat.le_of_lt_succ ((Nat.div_lt_iff_lt_mul (Nat.two_pow_pos _)).2 (by omega))
  · exact (Nat.le_div_iff_mul_le (Nat.two_pow_pos _)).2 (by omega)
theorem power_is {a : Nat × Nat} {z : Int × Int} (ha : IsC a z) {A : Nat} (hA : BC A z) (n : Nat) (hn1 : 1 ≤ n) (hn : (2 * A) ^ (n - 1) ≤ 67108863) (hA1 : 1 ≤ 2 * A) (hA2 : A ≤ 67108863) : IsC (power a n) (zpow z n) :=
  pw_is ha hA n hn1 hn hA1 hA2 n.log2 a 1 (by rw [zpow_one]; exact ha) (log2_div n hn1).symm
end Go.Proofs.Ytogejpepaggagaa.Cx
