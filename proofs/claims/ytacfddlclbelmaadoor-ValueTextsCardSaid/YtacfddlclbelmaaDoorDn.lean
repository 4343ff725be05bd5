/-
  Decimals, in plain lists: what the reference's Number reads is what strconv reads and writes again.
-/
import Derived.Test.YtacfddlclbelmaaDoorDc
namespace Go.Proofs.YtacfddlclbelmaaDoor.Dn
open Go.Lib Go.Proofs.YtacfddlclbelmaaDoor.Dc
def isD (c : UInt8) : Bool := decide (48 ≤ c.toNat ∧ c.toNat ≤ 57)
/-- The value of digits, behind a value. -/
def val (n : Nat) (l : List UInt8) : Nat := l.foldl (fun n c => 10 * n + (c.toNat - 48)) n
theorem val_snoc (n : Nat) (l : List UInt8) (c : UInt8) : val n (l ++ [c]) = 10 * val n l + (c.toNat - 48) := by simp [val]
theorem val_cons (n : Nat) (l : List UInt8) (c : UInt8) : val n (c :: l) = val (10 * n + (c.toNat - 48)) l := by simp [val]
def numO (l : List UInt8) : Option Int := match parseIntB 64 l with
  | .ok v => if itoa v = l then some v else none
  | _ => none
def negL (l : List UInt8) : Bool := match l with | 45 :: _ => true | _ => false
def bodyL (l : List UInt8) : List UInt8 := match l with | 45 :: r => r | _ => l
def badL (l : List UInt8) : Bool := decide (bodyL l = []) || decide (19 < (bodyL l).length) || (decide ((bodyL l).head? = some 48) && decide (l ≠ [48]))
def numR (l : List UInt8) : Option Int :=
  if badL l then none else if (bodyL l).all isD then
    (if negL l = true ∧ val 0 (bodyL l) ≤ 9223372036854775808 then some (-(val 0 (bodyL l) : Int)) else if negL l = false ∧ val 0 (bodyL l) < 9223372036854775808 then some (val 0 (bodyL l) : Int) else none) else none
theorem numO_itoa {v : Int} (h0 : -9223372036854775808 ≤ v) (h1 : v ≤ 9223372036854775807) : numO (itoa v) = some v := by
  unfold numO
  rw [parse_itoa v h0 h1]
  simp
theorem parse_bd {l : List UInt8} {v : Int} (h : parseIntB 64 l = .ok v) : -9223372036854775808 ≤ v ∧ v ≤ 9223372036854775807 := by
  unfold parseIntB at h
  split at h
  · cases h
  · dsimp only at h
    split at h
    · cases h
    · cases h
    · split at h
      · cases h
      · split at h
        · cases h
        · rename_i n1 n2
          injection h with h
          rw [show (2 : Nat) ^ (64 - 1) = 9223372036854775808 from rfl] at n1 n2
          split at h <;> omega
theorem numO_some {l : List UInt8} {v : Int} (h : numO l = some v) : itoa v = l ∧ -9223372036854775808 ≤ v ∧ v ≤ 9223372036854775807 := by
  unfold numO at h
  split at h
  · rename_i u hu
    split at h
    · rename_i e
      obtain rfl := Option.some.inj h
      exact ⟨e, parse_bd hu⟩
    · cases h
  · cases h
/-- A digit is its number's. -/
theorem dig_back {c : UInt8} (h : isD c = true) : UInt8.ofNat (48 + (c.toNat - 48)) = c ∧ c.toNat - 48 < 10 := by
  have h' := of_decide_eq_true h
  refine ⟨?_, by omega⟩
  rw [show 48 + (c.toNat - 48) = c.toNat by omega]
  exact UInt8.ofNat_toNat
theorem val_pos {l : List UInt8} (hl : l.all isD = true) {n : Nat} (hn : 1 ≤ n) : 1 ≤ val n l := by
  induction l generalizing n with
  | nil => exact hn
  | cons c l ih =>
    rw [val_cons]
    rw [List.all_cons, Bool.and_eq_true] at hl
    exact ih hl.2 (by omega)
/-- Digits without a nought ahead are their number's decimal. -/
theorem dec_val (k : Nat) : ∀ l : List UInt8, l.length = k → l.all isD = true → l ≠ [] → (l.head? = some 48 → l = [48]) → decDigits (val 0 l) = l := by
  induction k with
  | zero => intro l hl _ hne; exact absurd (List.eq_nil_of_length_eq_zero hl) hne
  | succ k ih =>
    intro l hl ha hne hh
    obtain ⟨m, c, rfl⟩ : ∃ m c, l = m ++ [c] := ⟨l.dropLast, l.getLast hne, (List.dropLast_concat_getLast hne).symm⟩
    rw [List.all_append, Bool.and_eq_true] at ha
    have hc : isD c = true := by simpa using ha.2
    obtain ⟨d1, d2⟩ := dig_back hc
    rw [val_snoc]
    by_cases hm : m = []
    · subst hm
      show decDigits (10 * 0 + (c.toNat - 48)) = [c]
      rw [Nat.mul_zero, Nat.zero_add]
      unfold decDigits
      rw [dif_pos d2, d1]
    · have hm1 : m.head? ≠ some 48 := by
        intro e
        have : (m ++ [c]).head? = some 48 := by
          rw [List.head?_append, e]; rfl
        have h2 := hh this
        have : (m ++ [c]).length = 1 := by rw [h2]; rfl
        rw [List.length_append] at this
        simp only [List.length_cons, List.length_nil] at this
        exact hm (List.eq_nil_of_length_eq_zero (by omega))
      have hmv : 1 ≤ val 0 m := by
        rcases m with _ | ⟨a, m⟩
        · exact absurd rfl hm
        · rw [val_cons]
          rw [List.all_cons, Bool.and_eq_true] at ha
          refine val_pos ha.1.2 ?_
          have ha' := of_decide_eq_true ha.1.1
          have : a.toNat ≠ 48 := fun e => hm1 (by rw [List.head?_cons]; congr 1; exact UInt8.toNat_inj.1 e)
          omega
      have hlen : m.length = k := by rw [List.length_append] at hl; simpa using hl
      unfold decDigits
      rw [dif_neg (by omega), show (10 * val 0 m + (c.toNat - 48)) / 10 = val 0 m by omega, show (10 * val 0 m + (c.toNat - 48)) % 10 = c.toNat - 48 by omega, d1]
      rw [ih m hlen ha.1 hm (fun e => absurd e hm1)]
theorem val_dec (u : Nat) : val 0 (decDigits u) = u := by
  induction u using Nat.strongRecOn with
  | ind u ih =>
    unfold decDigits
    split
    · rename_i h
      show 10 * 0 + ((UInt8.ofNat (48 + u)).toNat - 48) = u
      rw [dig_nat h]; omega
    · rename_i h
      rw [val_snoc, ih (u / 10) (by omega), dig_nat (by omega)]
      omega
theorem all_dec (u : Nat) : (decDigits u).all isD = true := by
  induction u using Nat.strongRecOn with
  | ind u ih =>
    unfold decDigits
    split
    · rename_i h
      simp only [List.all_cons, List.all_nil, Bool.and_true, isD]
      rw [dig_nat h]
      exact decide_eq_true ⟨by omega, by omega⟩
    · rename_i h
      rw [List.all_append, ih (u / 10) (by omega)]
      simp only [List.all_cons, List.all_nil, Bool.and_true, Bool.true_and, isD]
      rw [dig_nat (by omega)]
      exact decide_eq_true ⟨by omega, by omega⟩
theorem head_dec (u : Nat) (h : 1 ≤ u) : (decDigits u).head? ≠ some 48 := by
  induction u using Nat.strongRecOn with
  | ind u ih =>
    unfold decDigits
    split
    · rename_i h'
      intro e
      rw [List.head?_cons] at e
      injection e with e
      have := congrArg UInt8.toNat e
      rw [dig_nat h'] at this
      simp at this
      omega
    · rename_i h'
      rw [List.head?_append]
      have := ih (u / 10) (by omega) (by omega)
      intro e
      cases e2 : (decDigits (u / 10)).head? with
      | none => exact dec_ne _ (List.head?_eq_none_iff.1 e2)
      | some x =>
        rw [e2] at e this
        exact this e
theorem len_dec (k u : Nat) (h : u < 10 ^ (k + 1)) : (decDigits u).length ≤ k + 1 := by
  induction k generalizing u with
  | zero =>
    unfold decDigits
    rw [dif_pos (by simpa using h)]
    simp
  | succ k ih =>
    unfold decDigits
    split
    · simp
    · rw [List.length_append]
      have := ih (u / 10) (by rw [Nat.pow_succ] at h; omega)
      simp only [List.length_cons, List.length_nil]
      omega
theorem body_dec (u : Nat) : bodyL (decDigits u) = decDigits u ∧ negL (decDigits u) = false := by
  obtain ⟨c, r, e, h1, h2⟩ := dec_head u
  rw [e]
  have hc : c ≠ 45 := by intro hc; rw [hc] at h1; revert h1; decide
  unfold bodyL negL
  constructor
  · split
    · rename_i x heq
      injection heq with heq _
      exact absurd heq hc
    · rfl
  · split
    · rename_i x heq
      injection heq with heq _
      exact absurd heq hc
    · rfl
theorem dec_zero : decDigits 0 = [48] := by unfold decDigits; rfl
theorem numR_itoa {v : Int} (h0 : -9223372036854775808 ≤ v) (h1 : v ≤ 9223372036854775807) : numR (itoa v) = some v := by
  by_cases hn : v < 0
  · obtain ⟨u, hu⟩ : ∃ u : Nat, v.natAbs = u := ⟨_, rfl⟩
    have e : itoa v = 45 :: decDigits u := by unfold itoa; rw [if_pos hn, hu]
    have hb : bodyL (45 :: decDigits u) = decDigits u := rfl
    have hg : negL (45 :: decDigits u) = true := rfl
    rw [e]
    unfold numR badL
    rw [hb, hg, val_dec, all_dec]
    have l1 := len_dec 18 u (by omega)
    rw [show decide (decDigits u = []) = false by simpa using dec_ne u, show decide (19 < (decDigits u).length) = false by simpa using l1, show decide ((decDigits u).head? = some 48) = false by simpa using head_dec u (by omega)]
    simp only [Bool.or_self, Bool.false_and, Bool.false_eq_true, if_false, if_true, true_and]
    rw [if_pos (by omega)]
    congr 1
    omega
  · obtain ⟨u, hu⟩ : ∃ u : Nat, v.toNat = u := ⟨_, rfl⟩
    have e : itoa v = decDigits u := by unfold itoa; rw [if_neg hn, hu]
    obtain ⟨hb, hg⟩ := body_dec u
    rw [e]
    unfold numR badL
    rw [hb, hg, val_dec, all_dec]
    have l1 := len_dec 18 u (by omega)
    have l2 : (decide ((decDigits u).head? = some 48) && decide (decDigits u ≠ [48])) = false := by
      rcases Nat.eq_zero_or_pos u with h | h
      · rw [h, dec_zero]; rfl
      · rw [show decide ((decDigits u).head? = some 48) = false by simpa using head_dec u h]; rfl
    rw [show decide (decDigits u = []) = false by simpa using dec_ne u, show decide (19 < (decDigits u).length) = false by simpa using l1, l2]
    simp only [Bool.or_self, Bool.false_eq_true, if_false, if_true, false_and, true_and]
    rw [if_pos (by omega)]
    congr 1
    omega
theorem numR_some {l : List UInt8} {v : Int} (h : numR l = some v) : itoa v = l ∧ -9223372036854775808 ≤ v ∧ v ≤ 9223372036854775807 := by
  unfold numR at h
  split at h
  · cases h
  · rename_i hb
    have hb' : badL l = false := by simpa using hb
    unfold badL at hb'
    rw [Bool.or_eq_false_iff, Bool.or_eq_false_iff] at hb'
    obtain ⟨⟨b1, b2⟩, b3⟩ := hb'
    have b1' : bodyL l ≠ [] := of_decide_eq_false b1
    split at h
    · rename_i ha
      have hz : (bodyL l).head? = some 48 → l = [48] := by
        intro e
        rw [decide_eq_true e, Bool.true_and] at b3
        exact Classical.byContradiction fun hne => by rw [decide_eq_true hne] at b3; cases b3
      have hdv := dec_val _ (bodyL l) rfl ha b1' (fun e => by have := hz e; rw [this]; rfl)
      split at h
      · rename_i hn
        obtain rfl := Option.some.inj h
        have hl : l = 45 :: bodyL l := by
          have := hn.1
          unfold negL at this
          split at this
          · rfl
          · cases this
        have hpos : 1 ≤ val 0 (bodyL l) := by
          rcases Nat.eq_zero_or_pos (val 0 (bodyL l)) with h0 | h0
          · rw [h0, dec_zero] at hdv
            have := hz (by rw [← hdv]; rfl)
            rw [this] at hl
            cases hl
          · exact h0
        refine ⟨?_, by omega, by omega⟩
        unfold itoa
        rw [if_pos (by omega), show (-(val 0 (bodyL l) : Int)).natAbs = val 0 (bodyL l) by omega, hdv]
        exact hl.symm
      · split at h
        · rename_i hn
          obtain rfl := Option.some.inj h
          have hl : l = bodyL l := by
            have := hn.1
            unfold negL at this
            unfold bodyL
            split at this
            · cases this
            · rfl
          refine ⟨?_, by omega, by omega⟩
          unfold itoa
          rw [if_neg (by omega), Int.toNat_natCast, hdv]
          exact hl.symm
        · cases h
    · cases h
/-- Both read the same. -/
theorem num_same (l : List UInt8) : numR l = numO l := by
  cases h1 : numR l with
  | some v =>
    obtain ⟨e, h0, h2⟩ := numR_some h1
    rw [← e, numO_itoa h0 h2]
  | none =>
    cases h2 : numO l with
    | none => rfl
    | some v =>
      obtain ⟨e, h0, h3⟩ := numO_some h2
      rw [← e, numR_itoa h0 h3] at h1
      cases h1
end Go.Proofs.YtacfddlclbelmaaDoor.Dn
