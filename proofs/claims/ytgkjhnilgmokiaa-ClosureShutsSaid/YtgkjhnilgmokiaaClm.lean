/- What a closure is, in plain lists: shut, no more than is needed, each taken one reached from an earlier one. -/
import Derived.Test.YtgkjhnilgmokiaaOf
namespace Go.Proofs.Ytgkjhnilgmokiaa.Clm
open Go.Proofs.Ytgkjhnilgmokiaa.Cl Go.Proofs.Ytgkjhnilgmokiaa.Clo Go.Proofs.Ytgkjhnilgmokiaa.W8 Go.Proofs.Ytgkjhnilgmokiaa.Of
set_option linter.unusedVariables false
theorem stp_ext (out : List Int) (x : Int) : ∃ e, stp out x = out ++ e ∧ ∀ y ∈ e, y = x := by
  unfold stp
  split
  · exact ⟨[x], rfl, by simp⟩
  · exact ⟨[], by simp, by simp⟩
theorem addL_ext (out xs : List Int) : ∃ e, addL out xs = out ++ e ∧ ∀ y ∈ e, y ∈ xs := by
  unfold addL
  induction xs generalizing out with
  | nil => exact ⟨[], by simp, by simp⟩
  | cons x xs ih =>
    rw [List.foldl_cons]
    obtain ⟨e1, h1, h2⟩ := stp_ext out x
    obtain ⟨e2, h3, h4⟩ := ih (stp out x)
    refine ⟨e1 ++ e2, by rw [h3, h1, List.append_assoc], ?_⟩
    intro y hy
    rcases List.mem_append.1 hy with hy | hy
    · rw [h2 y hy]; exact List.mem_cons_self
    · exact List.mem_cons_of_mem _ (h4 y hy)
theorem stp_mem {out : List Int} {x : Int} (h : vol x = true) : x ∈ stp out x := by
  unfold stp
  split
  · simp
  · rename_i hn
    by_cases hm : x ∈ out
    · exact hm
    · exact absurd ⟨h, hm⟩ hn
theorem stp_sub {out : List Int} {x y : Int} (h : y ∈ out) : y ∈ stp out x := by
  obtain ⟨e, h1, _⟩ := stp_ext out x
  rw [h1]; exact List.mem_append_left _ h
theorem addL_sub {out xs : List Int} {y : Int} (h : y ∈ out) : y ∈ addL out xs := by
  obtain ⟨e, h1, _⟩ := addL_ext out xs
  rw [h1]; exact List.mem_append_left _ h
theorem addL_mem {out xs : List Int} {y : Int} (h : y ∈ xs) (hv : vol y = true) : y ∈ addL out xs := by
  unfold addL
  induction xs generalizing out with
  | nil => cases h
  | cons x xs ih =>
    rw [List.foldl_cons]
    rcases List.mem_cons.1 h with rfl | h
    · exact addL_sub (xs := xs) (stp_mem hv)
    · exact ih h
theorem getD_app {out e : List Int} {j : Nat} (h : j < out.length) : (out ++ e).getD j 0 = out.getD j 0 := by
  rw [List.getD_eq_getElem?_getD, List.getD_eq_getElem?_getD, List.getElem?_append_left h]
theorem clo_sub {R : Int → List Int} (n : Nat) : ∀ (out : List Int) (i : Nat) (y : Int), y ∈ out → y ∈ clo R n out i := by
  induction n with
  | zero => intro out i y h; exact h
  | succ n ih =>
    intro out i y h
    unfold clo
    split
    · exact ih _ _ _ (addL_sub h)
    · exact h
theorem clo_min {R : Int → List Int} {S : Int → Prop} (hR : ∀ x, S x → ∀ r ∈ R x, vol r = true → S r) (n : Nat) : ∀ (out : List Int) (i : Nat), Gd out → (∀ y ∈ out, S y) → ∀ y ∈ clo R n out i, S y := by
  induction n with
  | zero => intro out i _ h; exact h
  | succ n ih =>
    intro out i hg h
    unfold clo
    split
    · rename_i hi
      refine ih _ _ (gd_addL hg _) fun y hy => ?_
      obtain ⟨e, h1, h2⟩ := addL_ext out (R (out.getD i 0))
      have hv := (gd_addL hg (R (out.getD i 0))).2 y hy
      rw [h1] at hy
      rcases List.mem_append.1 hy with hy | hy
      · exact h y hy
      · have hm : out.getD i 0 ∈ out := by
          rw [List.getD_eq_getElem?_getD, List.getElem?_eq_getElem hi]
          exact List.getElem_mem hi
        exact hR _ (h _ hm) y (h2 y hy) hv
    · exact h
/-- Shut: what a taken one refers to is taken. -/
theorem clo_shut {R : Int → List Int} (n : Nat) : ∀ (out : List Int) (i : Nat), Gd out → i ≤ out.length → n + i = 65 → (∀ j, j < i → ∀ r ∈ R (out.getD j 0), vol r = true → r ∈ out) →
    ∀ y ∈ clo R n out i, ∀ r ∈ R y, vol r = true → r ∈ clo R n out i := by
  induction n with
  | zero => intro out i hg hi hn; have := gd_le hg; omega
  | succ n ih =>
    intro out i hg hi hn h
    unfold clo
    by_cases hlt : i < out.length
    · rw [if_pos hlt]
      obtain ⟨e, h1, h2⟩ := addL_ext out (R (out.getD i 0))
      refine ih _ _ (gd_addL hg _) (by rw [h1, List.length_append]; omega) (by omega) fun j hj r hr hv => ?_
      have hjo : j < out.length := by omega
      by_cases e1 : j = i
      · subst e1
        rw [h1, getD_app hjo] at hr
        exact addL_mem hr hv
      · rw [h1, getD_app hjo] at hr
        exact addL_sub (h j (by omega) r hr hv)
    · rw [if_neg hlt]
      intro y hy r hr hv
      obtain ⟨j, hj, e1⟩ := List.mem_iff_getElem.1 hy
      refine h j (by omega) r ?_ hv
      rw [List.getD_eq_getElem?_getD, List.getElem?_eq_getElem hj, Option.getD_some, e1]
      exact hr
/-- Each but the first m is referred to by an earlier one. -/
theorem clo_from {R : Int → List Int} (m n : Nat) : ∀ (out : List Int) (i : Nat), i ≤ out.length → (∀ k, m ≤ k → k < out.length → ∃ j, j < k ∧ out.getD k 0 ∈ R (out.getD j 0)) →
    ∀ k, m ≤ k → k < (clo R n out i).length → ∃ j, j < k ∧ (clo R n out i).getD k 0 ∈ R ((clo R n out i).getD j 0) := by
  induction n with
  | zero => intro out i _ h; exact h
  | succ n ih =>
    intro out i hi h
    unfold clo
    by_cases hlt : i < out.length
    · rw [if_pos hlt]
      obtain ⟨e, h1, h2⟩ := addL_ext out (R (out.getD i 0))
      refine ih _ _ (by rw [h1, List.length_append]; omega) fun k hm hk => ?_
      rw [h1] at hk ⊢
      by_cases hko : k < out.length
      · obtain ⟨j, hj, hr⟩ := h k hm hko
        refine ⟨j, hj, ?_⟩
        rw [getD_app hko, getD_app (by omega)]
        exact hr
      · refine ⟨i, by omega, ?_⟩
        rw [getD_app hlt]
        apply h2
        rw [List.length_append] at hk
        rw [List.getD_eq_getElem?_getD, List.getElem?_append_right (by omega), List.getElem?_eq_getElem (by omega)]
        exact List.getElem_mem _
    · rw [if_neg hlt]
      exact h
/-- The closure of seeds. -/
theorem clo_prefix {R : Int → List Int} (n : Nat) : ∀ (out : List Int) (i : Nat), ∃ e, clo R n out i = out ++ e := by
  induction n with
  | zero => exact fun out i => ⟨[], by simp [clo]⟩
  | succ n ih =>
    intro out i
    unfold clo
    split
    · obtain ⟨e, h1, _⟩ := addL_ext out (R (out.getD i 0))
      obtain ⟨e2, h2⟩ := ih (addL out (R (out.getD i 0))) (i + 1)
      exact ⟨e ++ e2, by rw [h2, h1, List.append_assoc]⟩
    · exact ⟨[], by simp⟩
theorem sd_app (a b : List W8) : sd (a ++ b) = b.foldl sd1 (sd a) := by
  unfold sd
  rw [List.foldl_append]
theorem fold_sub (b : List W8) : ∀ (out : List Int) (y : Int), y ∈ out → y ∈ b.foldl sd1 out := by
  induction b with
  | nil => exact fun out y h => h
  | cons x b ih =>
    intro out y h
    rw [List.foldl_cons]
    refine ih _ _ ?_
    unfold sd1
    split
    · exact stp_sub h
    · exact h
theorem clo_more {R : Int → List Int} (a b : List W8) (y : Int) (h : y ∈ clo R 65 (sd a) 0) : y ∈ clo R 65 (sd (a ++ b)) 0 := by
  refine clo_min (S := fun y => y ∈ clo R 65 (sd (a ++ b)) 0) ?_ 65 (sd a) 0 (gd_sd a) ?_ y h
  · intro x hx r hr hv
    exact clo_shut 65 _ 0 (gd_sd _) (by omega) rfl (fun j hj => by omega) x hx r hr hv
  · intro z hz
    refine clo_sub _ _ _ _ ?_
    rw [sd_app]
    exact fold_sub b _ _ hz
def strong (a : List W8) : List W8 := a.filter fun x => x.kind != 3
theorem sd_strong (a : List W8) : sd (strong a) = sd a := by
  have h : ∀ (a : List W8) (out : List Int), (strong a).foldl sd1 out = a.foldl sd1 out := by
    intro a
    induction a with
    | nil => exact fun out => rfl
    | cons x a ih =>
      intro out
      unfold strong
      rw [List.filter_cons, List.foldl_cons]
      cases hk : (x.kind != 3)
      · rw [if_neg (by decide)]
        have h3 : x.kind = 3 := bne_eq_false_iff_eq.1 hk
        have : sel x = false := by
          unfold sel
          rw [h3]
          rfl
        rw [sd1_no out this]
        exact ih out
      · rw [if_pos rfl, List.foldl_cons]
        exact ih _
  exact h a []
theorem strong_snoc (l : List W8) (x : W8) : strong (l ++ [x]) = strong l ++ (if (x.kind != 3) = true then [x] else []) := by
  unfold strong
  rw [List.filter_append, List.filter_cons]
  rfl
end Go.Proofs.Ytgkjhnilgmokiaa.Clm
