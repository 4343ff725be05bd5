/- What is written is read as it was: in plain words. -/
import Derived.Test.YtlmlckidgfnhdaaTl
namespace Go.Proofs.Ytlmlckidgfnhdaa.Tb
open Go.Proofs.Ytlmlckidgfnhdaa.Ba Go.Proofs.Ytlmlckidgfnhdaa.Kw Go.Proofs.Ytlmlckidgfnhdaa.Pc Go.Proofs.Ytlmlckidgfnhdaa.My Go.Proofs.Ytlmlckidgfnhdaa.Nw Go.Proofs.Ytlmlckidgfnhdaa.Wd Go.Proofs.Ytlmlckidgfnhdaa.Kp Go.Proofs.Ytlmlckidgfnhdaa.Pp Go.Proofs.Ytlmlckidgfnhdaa.Su Go.Proofs.Ytlmlckidgfnhdaa.Tl
set_option linter.unusedVariables false
theorem sm16 (f : List Int) (k : Nat) : sm f k % 16 = 0 := by
  induction k with
  | zero => rfl
  | succ k ih =>
    show (sm f k + (f.getD k 0).toNat * 2 ^ (4 + 2 * k)) % 16 = 0
    rw [Nat.pow_add, show (2 : Nat) ^ 4 = 16 from rfl, show (f.getD k 0).toNat * (16 * 2 ^ (2 * k)) = 16 * ((f.getD k 0).toNat * 2 ^ (2 * k)) by rw [Nat.mul_left_comm]]
    omega
theorem pk_up (f : List Int) (i d : Nat) : ∃ q, pkA f (i + 1 + d) = pkA f (i + 1) + 2 ^ (4 + 2 * i) * (4 * q) := by
  induction d with
  | zero => exact ⟨0, by simp⟩
  | succ d ih =>
    obtain ⟨q, hq⟩ := ih
    refine ⟨q + (f.getD (i + 1 + d) 0).toNat * 2 ^ (2 * d), ?_⟩
    have e1 : pkA f (i + 1 + (d + 1)) = pkA f (i + 1 + d) + (f.getD (i + 1 + d) 0).toNat * 2 ^ (4 + 2 * (i + 1 + d)) := by
      exact (Nat.add_assoc _ _ _).symm
    have e2 : 2 ^ (4 + 2 * (i + 1 + d)) = 2 ^ (4 + 2 * i) * (4 * 2 ^ (2 * d)) := by
      rw [show 4 + 2 * (i + 1 + d) = (4 + 2 * i) + (2 + 2 * d) by omega, Nat.pow_add, Nat.pow_add 2 2 (2 * d)]
    rw [e1, hq, e2, Nat.mul_add 4, Nat.mul_add, Nat.add_assoc]
    congr 2
    rw [Nat.mul_left_comm, Nat.mul_left_comm (f.getD (i + 1 + d) 0).toNat 4]
theorem fld_word {f : List Int} (h : kM f = true) (i : Nat) (hi : i < f.length) : fldA (pkA f f.length) i = f.getD i 0 := by
  obtain ⟨q, hq⟩ := pk_up f i (f.length - (i + 1))
  rw [show i + 1 + (f.length - (i + 1)) = f.length by omega] at hq
  have h1 := pk_lt h i (by omega)
  have hf := kM_fields h i hi
  have e1 : pkA f (i + 1) = pkA f i + (f.getD i 0).toNat * 2 ^ (4 + 2 * i) := by
    show f.length + (sm f i + _) = f.length + sm f i + _
    rw [Nat.add_assoc]
  have e2 : pkA f f.length = pkA f i + 2 ^ (4 + 2 * i) * ((f.getD i 0).toNat + 4 * q) := by
    rw [hq, e1, Nat.mul_add, Nat.mul_comm (f.getD i 0).toNat, Nat.add_assoc]
  unfold fldA
  rw [e2, Nat.add_mul_div_left _ _ (Nat.pow_pos (by omega)), Nat.div_eq_of_lt h1]
  omega
theorem flds_get (x k i : Nat) (h : i < k) : (flds x k).getD i 0 = fldA x i := by
  induction k with
  | zero => omega
  | succ k ih =>
    show (flds x k ++ [fldA x k]).getD i 0 = _
    by_cases e : i < k
    · rw [getD_l _ _ _ _ (by rw [flds_len]; exact e)]; exact ih e
    · obtain rfl : i = k := by omega
      rw [getD_r _ _ _ (flds_len x i).symm]
theorem fl_word {f : List Int} (h : kM f = true) : fl (wordK f) = f := by
  have hl := kM_len h
  have hw : wordK f = pkA f f.length := by unfold wordK; rw [if_pos h]
  have hm : pkA f f.length % 16 = f.length := by have := sm16 f f.length; unfold pkA; omega
  unfold fl
  rw [hw, hm]
  refine List.ext_getElem (flds_len _ _) fun i h1 h2 => ?_
  have h3 := (flds_get (pkA f f.length) f.length i h2).trans (fld_word h i h2)
  rw [List.getD_eq_getElem?_getD, List.getElem?_eq_getElem h1, List.getD_eq_getElem?_getD, List.getElem?_eq_getElem h2] at h3
  exact h3
theorem kP_word {f : List Int} (h : kM f = true) : kP (wordK f) = true := by
  have e : flds (wordK f) (wordK f % 16) = f := fl_word h
  unfold kP
  rw [e, h]
  simp
theorem allK_of {ws : List Nat} {n : Nat} (h : ∀ j, j < n → kP (ws.getD (9 + j) 0) = true) : allK ws n = true := by
  induction n with
  | zero => rfl
  | succ n ih =>
    show (allK ws n && kP (ws.getD (9 + n) 0)) = true
    rw [ih (fun j hj => h j (by omega)), h n (by omega)]
    rfl
/-- The words of a config that may be, and more behind them, are its words. -/
theorem back {ks : List (List Int)} {r e l b0 b1 b2 b3 : Nat} (hm : mayE ⟨ks, b0, b1, b2, b3, r, e, l⟩ = 0) : Ok (sW r e l b0 b1 b2 b3 ks ++ [1, 2]) ∧ cfW (sW r e l b0 b1 b2 b3 ks ++ [1, 2]) = ⟨ks, b0, b1, b2, b3, r, e, l⟩ := by
  have ha := (mayE_zero hm).1
  obtain ⟨x0, x1, hk, ⟨f0, g0⟩, ⟨f1, g1⟩, ⟨f2, g2⟩, ⟨f3, g3⟩, _, ⟨f5, g5⟩, ⟨f6, g6⟩, ⟨f7, g7⟩, _⟩ := ha
  dsimp only at x0 x1 hk f0 g0 f1 g1 f2 g2 f3 g3 f5 g5 f6 g6 f7 g7
  have hl := sW_len r e l b0 b1 b2 b3 ks
  have t : ∀ j, j < ks.length → (sW r e l b0 b1 b2 b3 ks ++ [1, 2]).getD (9 + j) 0 = wordK (ks.getD j []) := fun j hj => by
    rw [getD_l _ _ _ _ (by omega)]
    exact sW_tail r e l b0 b1 b2 b3 ks j hj
  have hkm : ∀ j, j < ks.length → kM (ks.getD j []) = true := fun j hj => List.all_eq_true.1 hk _ (mem_getD hj)
  have hn : kN (sW r e l b0 b1 b2 b3 ks ++ [1, 2]) = ks.length := by
    show num ks.length = ks.length
    exact num_id (by omega)
  have hkd : kds (sW r e l b0 b1 b2 b3 ks ++ [1, 2]) ks.length = ks := by
    refine List.ext_getElem (kds_len _ _) fun j h1 h2 => ?_
    have h3 := kds_get (sW r e l b0 b1 b2 b3 ks ++ [1, 2]) ks.length j h2
    rw [t j h2, fl_word (hkm j h2), List.getD_eq_getElem?_getD, List.getElem?_eq_getElem h1, List.getD_eq_getElem?_getD, List.getElem?_eq_getElem h2] at h3
    exact h3
  have hc : cfW (sW r e l b0 b1 b2 b3 ks ++ [1, 2]) = ⟨ks, b0, b1, b2, b3, r, e, l⟩ := by
    unfold cfW
    rw [hn, hkd]
    show (⟨ks, (num b0 : Int), (num b1 : Int), (num b2 : Int), (num b3 : Int), (num r : Int), (num e : Int), (num l : Int)⟩ : Cf) = _
    rw [num_id (x := b0) (by omega), num_id (x := b1) (by omega), num_id (x := b2) (by omega), num_id (x := b3) (by omega), num_id (x := r) (by omega), num_id (x := e) (by omega), num_id (x := l) (by omega)]
  refine ⟨⟨by rw [List.length_append, hl]; omega, rfl, by rw [hn, List.length_append, hl]; omega, ?_, by rw [hc]; exact hm⟩, hc⟩
  rw [hn]
  exact allK_of (fun j hj => by rw [t j hj]; exact kP_word (hkm j hj))
end Go.Proofs.Ytlmlckidgfnhdaa.Tb
