/- No two parts share a word: in plain words. -/
import Derived.Test.YtlmlckidgfnhdaaTa
namespace Go.Proofs.Ytlmlckidgfnhdaa.Ge
open Go.Proofs.Ytlmlckidgfnhdaa.Ba Go.Proofs.Ytlmlckidgfnhdaa.Kw Go.Proofs.Ytlmlckidgfnhdaa.Pl Go.Proofs.Ytlmlckidgfnhdaa.Pc Go.Proofs.Ytlmlckidgfnhdaa.My Go.Proofs.Ytlmlckidgfnhdaa.Nw Go.Proofs.Ytlmlckidgfnhdaa.Ca Go.Proofs.Ytlmlckidgfnhdaa.Ta
set_option linter.unusedVariables false
theorem cls_in {c : Cf} (h : Arg c) {b : Int} (h0 : 0 ≤ b) (h1 : b < cnt c) : 0 ≤ cls c b ∧ cls c b ≤ 3 := by
  have k0 := h.b0
  have k1 := h.b1
  have k2 := h.b2
  have k3 := h.b3
  rcases cls_cases c b with e | ⟨e, _⟩ | ⟨e, _⟩ | ⟨e, _⟩ | ⟨e, _⟩
  · exfalso
    unfold cls at e
    split at e
    · omega
    split at e
    · omega
    split at e
    · omega
    split at e
    · omega
    rename_i n0 n1 n2 n3
    unfold inC at n0 n1 n2 n3
    unfold cnt at h1
    omega
  all_goals omega
/-- Where a block begins and ends, class by class. -/
theorem at_cases {c : Cf} (h : Arg c) {b : Int} (h0 : 0 ≤ b) (h1 : b < cnt c) :
    (cls c b = 0 ∧ atA c b = blocksA c + b * 2 ∧ sz (cls c b) = 2 ∧ b < c.b0) ∨ (cls c b = 1 ∧ atA c b = blocksA c + c.b0 * 2 + (b - c.b0) * 4 ∧ sz (cls c b) = 4 ∧ c.b0 ≤ b ∧ b < c.b0 + c.b1) ∨
      (cls c b = 2 ∧ atA c b = blocksA c + c.b0 * 2 + c.b1 * 4 + (b - (c.b0 + c.b1)) * 8 ∧ sz (cls c b) = 8 ∧ c.b0 + c.b1 ≤ b ∧ b < c.b0 + c.b1 + c.b2) ∨
      (cls c b = 3 ∧ atA c b = blocksA c + c.b0 * 2 + c.b1 * 4 + c.b2 * 8 + (b - (c.b0 + c.b1 + c.b2)) * 16 ∧ sz (cls c b) = 16 ∧ c.b0 + c.b1 + c.b2 ≤ b ∧ b < c.b0 + c.b1 + c.b2 + c.b3) := by
  have hi := cls_in h h0 h1
  rcases cls_cases c b with e | ⟨e, x, y⟩ | ⟨e, x, y⟩ | ⟨e, x, y⟩ | ⟨e, x, y⟩
  · omega
  · exact .inl ⟨e, by unfold atA; rw [e]; rfl, by rw [e]; rfl, y⟩
  · exact .inr (.inl ⟨e, by unfold atA; rw [e]; rfl, by rw [e]; rfl, x, y⟩)
  · exact .inr (.inr (.inl ⟨e, by unfold atA; rw [e]; rfl, by rw [e]; rfl, x, y⟩))
  · exact .inr (.inr (.inr ⟨e, by unfold atA; rw [e]; rfl, by rw [e]; rfl, x, y⟩))
theorem apart {c : Cf} (h : Arg c) {a b : Int} (h0 : 0 ≤ a) (hab : a ≤ b) (h1 : b < cnt c) : atA c a ≤ atA c b ∧ (a < b → atA c a + sz (cls c a) ≤ atA c b) ∧ cls c a ≤ cls c b := by
  have k0 := h.b0
  have k1 := h.b1
  have k2 := h.b2
  have k3 := h.b3
  rcases at_cases h h0 (by omega) with ⟨e, f, s, x⟩ | ⟨e, f, s, x, y⟩ | ⟨e, f, s, x, y⟩ | ⟨e, f, s, x, y⟩ <;>
  rcases at_cases h (show 0 ≤ b by omega) h1 with ⟨e', f', s', x'⟩ | ⟨e', f', s', x', y'⟩ | ⟨e', f', s', x', y'⟩ | ⟨e', f', s', x', y'⟩ <;>
  (rw [f, f', s, e, e']; omega)
theorem ends {c : Cf} (h : Arg c) : atA c (cnt c - 1) + sz (cls c (cnt c - 1)) ≤ wordsA c := by
  have k0 := h.b0
  have k1 := h.b1
  have k2 := h.b2
  have k3 := h.b3
  have hs := h.s
  have hb : 0 ≤ blocksA c ∧ blocksA c ≤ 10000 := blocks_b h.fit
  have hw := ln_b (x := blocksA c + allW c) (by unfold allW; omega)
  have hww : wordsA c = ln (blocksA c + allW c) := rfl
  have hal : allW c = c.b0 * 2 + c.b1 * 4 + c.b2 * 8 + c.b3 * 16 := rfl
  have hc : cnt c = c.b0 + c.b1 + c.b2 + c.b3 := rfl
  rcases at_cases h (show 0 ≤ cnt c - 1 by omega) (by omega) with ⟨e, f, s, x⟩ | ⟨e, f, s, x, y⟩ | ⟨e, f, s, x, y⟩ | ⟨e, f, s, x, y⟩ <;>
  (rw [f, s]; omega)
theorem parts {c : Cf} (h : Arg c) : 9 + (c.ks.length : Int) ≤ rootsA c ∧ rootsA c + c.ro + c.we ≤ bitsA c ∧ bitsA c + (cnt c - 1) / 64 < logA c ∧ wordsA c % 8 = 0 ∧ logA c % 8 = 0 ∧ blocksA c % 8 = 0 ∧ 0 ≤ rootsA c ∧ bitsA c ≤ 1000000 ∧ logA c ≤ 1000000 := by
  have k0 := h.b0
  have k1 := h.b1
  have k2 := h.b2
  have k3 := h.b3
  have hs := h.s
  have hr := h.ro
  have he := h.we
  have hl := h.lg
  have hm := h.m
  have hk := h.k1
  have r1 := ln_b (x := 9 + (c.ks.length : Int)) (by omega)
  have e1 : rootsA c = ln (9 + c.ks.length) := rfl
  have r2 := ln_b (x := rootsA c + c.ro + c.we) (by omega)
  have e2 : bitsA c = ln (rootsA c + c.ro + c.we) := rfl
  have hc : cnt c = c.b0 + c.b1 + c.b2 + c.b3 := rfl
  have r3 := ln_b (x := bitsA c + (cnt c + 63) / 64) (by omega)
  have e3 : logA c = ln (bitsA c + (cnt c + 63) / 64) := rfl
  have e4 : blocksA c = logA c + c.lg := rfl
  have r5 := ln_b (x := blocksA c + allW c) (by unfold allW; omega)
  have e5 : wordsA c = ln (blocksA c + allW c) := rfl
  omega
end Go.Proofs.Ytlmlckidgfnhdaa.Ge
