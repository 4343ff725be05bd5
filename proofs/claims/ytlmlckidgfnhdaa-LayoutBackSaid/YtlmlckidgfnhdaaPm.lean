/- With more blocks, more roots, a longer log nothing gets shorter: in plain words. -/
import Derived.Test.YtlmlckidgfnhdaaTa
namespace Go.Proofs.Ytlmlckidgfnhdaa.Pm
open Go.Proofs.Ytlmlckidgfnhdaa.Ba Go.Proofs.Ytlmlckidgfnhdaa.Kw Go.Proofs.Ytlmlckidgfnhdaa.Pl Go.Proofs.Ytlmlckidgfnhdaa.Pc Go.Proofs.Ytlmlckidgfnhdaa.My Go.Proofs.Ytlmlckidgfnhdaa.Nw Go.Proofs.Ytlmlckidgfnhdaa.Ca Go.Proofs.Ytlmlckidgfnhdaa.Ta
set_option linter.unusedVariables false
structure Le (c d : Cf) : Prop where
  k : c.ks.length = d.ks.length
  b0 : c.b0 ≤ d.b0
  b1 : c.b1 ≤ d.b1
  b2 : c.b2 ≤ d.b2
  b3 : c.b3 ≤ d.b3
  ro : c.ro ≤ d.ro
  we : c.we ≤ d.we
  lg : c.lg ≤ d.lg
theorem blocks_le {c d : Cf} (h : Le c d) : blocksA c ≤ blocksA d := by
  obtain ⟨k, h0, h1, h2, h3, h4, h5, h6⟩ := h
  have e1 : rootsA c ≤ rootsA d := ln_up (by omega)
  have e2 : bitsA c ≤ bitsA d := ln_up (by omega)
  have e3 : logA c ≤ logA d := ln_up (by unfold cnt; omega)
  unfold blocksA
  omega
theorem words_le {c d : Cf} (h : Le c d) : wordsA c ≤ wordsA d := by
  have e := blocks_le h
  obtain ⟨k, h0, h1, h2, h3, h4, h5, h6⟩ := h
  exact ln_up (by unfold allW; omega)
theorem at0 {c : Cf} (h : Arg c) : atA c 0 = blocksA c := by
  have h0 := h.b0
  have h1 := h.b1
  have h2 := h.b2
  have h3 := h.b3
  have hs := h.s
  unfold cnt at hs
  have hc := cls_cases c 0
  unfold atA
  rcases hc with e | ⟨e, x, y⟩ | ⟨e, x, y⟩ | ⟨e, x, y⟩ | ⟨e, x, y⟩
  · exfalso
    unfold cls at e
    split at e
    · omega
    split at e
    · omega
    split at e
    · omega
    split at e
    · omega
    rename_i n0 n1 n2 n3
    unfold inC at n0 n1 n2 n3
    omega
  · rw [e, if_pos rfl]; omega
  · rw [e, if_neg (by decide), if_pos rfl]; omega
  · rw [e, if_neg (by decide), if_neg (by decide), if_pos rfl]; omega
  · rw [e, if_neg (by decide), if_neg (by decide), if_neg (by decide), if_pos rfl]; omega
theorem pages_le {c d : Cf} (h : Le c d) : pagesA c ≤ pagesA d := by
  obtain ⟨k, h0, h1, h2, h3, h4, h5, h6⟩ := h
  unfold pagesA
  omega
end Go.Proofs.Ytlmlckidgfnhdaa.Pm
