/- The buffer, in plain lists: what a put leaves at other places; the same puts once more; the last one counts. -/
import Derived.Test.YtmdjbldmfmoaaaaBw
namespace Go.Proofs.Ytmdjbldmfmoaaaa.Bl
open Go.RowKit Go.Proofs.YtmdjbldmfmoaaaaW.PrintWords Go.Proofs.Ytmdjbldmfmoaaaa.Ba Go.Proofs.Ytmdjbldmfmoaaaa.Bu Go.Proofs.Ytmdjbldmfmoaaaa.Bw
set_option linter.unusedVariables false
theorem fidx_set (p : W8 → Bool) (x : W8) (hx : p x = false) : ∀ (l : List W8) (i : Nat), (∀ h : i < l.length, p l[i] = false) → (l.set i x).findIdx p = l.findIdx p := by
  intro l
  induction l with
  | nil => intro i _; rfl
  | cons y l ih =>
    intro i h
    cases i with
    | zero =>
      have h0 := h (by simp)
      rw [List.set_cons_zero, List.findIdx_cons, List.findIdx_cons, hx]
      simp only [List.getElem_cons_zero] at h0
      rw [h0]
    | succ i =>
      rw [List.set_cons_succ, List.findIdx_cons, List.findIdx_cons, ih i (fun hi => by have := h (by simp; omega); simpa using this)]
theorem fidx_app (p : W8 → Bool) (x : W8) (hx : p x = false) (l : List W8) : (l ++ [x]).findIdx p = if l.findIdx p < l.length then l.findIdx p else l.length + 1 := by
  rw [List.findIdx_append]
  split
  · rfl
  · simp [List.findIdx_cons, hx]; omega
/-- Of one place, or not. -/
theorem place_eq {k o f : Int} {a b : W8} (h : matchP a.kind a.obj a.field b = true) : matchP k o f b = matchP k o f a := by
  unfold matchP at h ⊢
  simp only [Bool.and_eq_true, beq_iff_eq, Bool.or_eq_true, bne_iff_ne] at h
  obtain ⟨⟨h1, h2⟩, h3⟩ := h
  rw [h1, h2]
  cases e : (a.kind == k)
  · rfl
  · have e1 := beq_iff_eq.1 e
    rcases h3 with h3 | h3
    · rw [e1] at h3
      rw [show (k != 1) = true from bne_iff_ne.2 h3]
      simp
    · rw [h3]
theorem norm_match {k o f : Int} (w : W8) : matchP k o f (norm w) = matchP k o f w := by
  unfold matchP norm
  dsimp only
  cases e : (w.kind == 1)
  · rw [if_neg (by decide)]
    cases e2 : (w.kind == k)
    · rfl
    · have := beq_iff_eq.1 e2
      have e3 : (k != 1) = true := by rw [← this]; simpa using e
      rw [e3]; simp
  · rw [if_pos rfl]
theorem mN_at {l : List W8} {w : W8} (h : l.findIdx (mN w) < l.length) : mN w l[l.findIdx (mN w)] = true := List.findIdx_getElem (w := h)
theorem put_apart {k o f : Int} {w : W8} (hw : matchP k o f w = false) (l : List W8) : fv k o f (putL l w) = fv k o f l ∧ fb k o f (putL l w) = fb k o f l := by
  have hn : matchP k o f (norm w) = false := by rw [norm_match, hw]
  unfold putL
  split
  · split
    · rename_i hi
      have hm := mN_at hi
      have hp : matchP k o f l[l.findIdx (mN w)] = false := by
        rw [place_eq (a := norm w) hm, hn]
      have e := fidx_set (matchP k o f) (norm w) hn l (l.findIdx (mN w)) (fun _ => hp)
      constructor
      · unfold fv
        rw [e, List.length_set]
        split
        · rename_i h2
          have hne : l.findIdx (mN w) ≠ l.findIdx (matchP k o f) := by
            intro e2
            have := List.findIdx_getElem (w := h2)
            simp only [e2] at hp
            rw [hp] at this
            cases this
          rw [List.getD_eq_getElem?_getD, List.getElem?_set_ne hne, ← List.getD_eq_getElem?_getD]
        · rfl
      · unfold fb
        rw [e, List.length_set]
    · split
      · exact ⟨rfl, rfl⟩
      · have e := fidx_app (matchP k o f) (norm w) hn l
        by_cases h2 : l.findIdx (matchP k o f) < l.length
        · rw [if_pos h2] at e
          constructor
          · unfold fv
            rw [e, List.length_append, if_pos (by omega), if_pos h2, List.getD_eq_getElem?_getD, List.getElem?_append_left h2, ← List.getD_eq_getElem?_getD]
          · unfold fb
            rw [e, List.length_append, decide_eq_true h2, decide_eq_true (by omega)]
        · rw [if_neg h2] at e
          constructor
          · unfold fv
            rw [e, List.length_append, if_neg h2, if_neg (by simp)]
          · unfold fb
            rw [e, List.length_append, decide_eq_false h2, decide_eq_false (by simp)]
  · exact ⟨rfl, rfl⟩
/-- All puts, from none. -/
def pl (l : List W8) : List W8 := l.foldl putL []
theorem pl_snoc (l : List W8) (x : W8) : pl (l ++ [x]) = putL (pl l) x := by
  unfold pl
  rw [List.foldl_append]
  rfl
end Go.Proofs.Ytmdjbldmfmoaaaa.Bl
