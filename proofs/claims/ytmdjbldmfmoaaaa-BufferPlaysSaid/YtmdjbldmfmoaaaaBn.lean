/- The buffer, in plain lists: what stands in it is as it was told, each place once; put once more nothing changes. -/
import Derived.Test.YtmdjbldmfmoaaaaBl
namespace Go.Proofs.Ytmdjbldmfmoaaaa.Bn
open Go.RowKit Go.Proofs.YtmdjbldmfmoaaaaW.PrintWords Go.Proofs.Ytmdjbldmfmoaaaa.Ba Go.Proofs.Ytmdjbldmfmoaaaa.Bu Go.Proofs.Ytmdjbldmfmoaaaa.Bw Go.Proofs.Ytmdjbldmfmoaaaa.Bl
set_option linter.unusedVariables false
/-- Of one place. -/
def Pm (a b : W8) : Bool := matchP a.kind a.obj a.field b
theorem mN_eq (w b : W8) : mN w b = Pm (norm w) b := rfl
theorem pm_self (a : W8) : Pm a a = true := by unfold Pm matchP; simp
theorem pm_symm (a b : W8) : Pm a b = Pm b a := by
  unfold Pm matchP
  rw [Bool.eq_iff_iff]
  simp only [Bool.and_eq_true, beq_iff_eq, Bool.or_eq_true, bne_iff_ne]
  constructor
  · rintro ⟨⟨h1, h2⟩, h3⟩
    refine ⟨⟨h1.symm, h2.symm⟩, ?_⟩
    rw [h1]
    rcases h3 with h3 | h3
    · exact .inl h3
    · exact .inr h3.symm
  · rintro ⟨⟨h1, h2⟩, h3⟩
    refine ⟨⟨h1.symm, h2.symm⟩, ?_⟩
    rw [h1]
    rcases h3 with h3 | h3
    · exact .inl h3
    · exact .inr h3.symm
/-- Two of one place have the same neighbours. -/
theorem pm_trans {a b c : W8} (h : Pm a b = true) : Pm b c = Pm a c := by
  rw [pm_symm b c, pm_symm a c]
  exact place_eq (k := c.kind) (o := c.obj) (f := c.field) h
theorem told_told (v : V5) : told5 (told5 v) = told5 v := by
  unfold told5
  cases e1 : (v.kd == 1)
  · cases e2 : (v.kd == 2)
    · cases e3 : (v.kd == 3) <;> simp [z5]
    · simp
  · simp
theorem told_kd {v : V5} (h0 : 0 ≤ v.kd) (h3 : v.kd ≤ 3) : (told5 v).kd = v.kd := by
  unfold told5
  cases e1 : (v.kd == 1)
  · cases e2 : (v.kd == 2)
    · cases e3 : (v.kd == 3)
      · simp only [beq_eq_false_iff_ne, ne_eq] at e1 e2 e3
        simp [z5]
        omega
      · simp only [beq_iff_eq] at e3
        simp [e3]
    · simp only [beq_iff_eq] at e2
      simp [e2]
  · simp only [beq_iff_eq] at e1
    simp [e1]
theorem norm_norm (w : W8) : norm (norm w) = norm w := by
  unfold norm
  simp only [told_told]
  split <;> simp_all
theorem may_kd {w : W8} (h : mayB w = true) : 0 ≤ w.v.kd ∧ w.v.kd ≤ 3 := by
  rcases may_cases w with ⟨_, h1⟩ | ⟨h2, _⟩
  · rcases h1 with h1 | h1 | h1 | h1 | h1
    · omega
    · have := beq_iff_eq.1 h1.2.2.2; omega
    · have := beq_iff_eq.1 h1.2.2.2.2; omega
    · have := beq_iff_eq.1 h1.2.2.2.2; omega
    · have := beq_iff_eq.1 h1.2.2.2.2.2; omega
  · rw [h2] at h; cases h
theorem may_norm {w : W8} (h : mayB w = true) : mayB (norm w) = true := by
  obtain ⟨h0, h3⟩ := may_kd h
  have hk := told_kd h0 h3
  unfold mayB norm at *
  dsimp only at *
  rw [hk]
  cases e1 : (w.kind == 1)
  · rw [e1] at h
    simp only [Bool.false_eq_true, if_false] at h ⊢
    exact h
  · rw [e1] at h
    simp only [if_true] at h ⊢
    exact h
/-- What stands in a buffer. -/
def Nm (l : List W8) : Prop := (∀ x ∈ l, mayB x = true ∧ norm x = x) ∧ ∀ i j, i < j → j < l.length → Pm (l.getD i z8) (l.getD j z8) = false
theorem nm_nil : Nm [] := ⟨by simp, fun i j _ hj => absurd hj (by simp)⟩
theorem getD_set {l : List W8} {i j : Nat} {x : W8} (hj : j < l.length) : (l.set i x).getD j z8 = if i = j then x else l.getD j z8 := by
  rw [List.getD_eq_getElem?_getD, List.getElem?_set]
  split
  · rename_i e
    subst e
    rw [if_pos hj]
    rfl
  · rw [← List.getD_eq_getElem?_getD]
theorem getD_app1 {l : List W8} {x : W8} {j : Nat} (hj : j ≤ l.length) : (l ++ [x]).getD j z8 = if j < l.length then l.getD j z8 else x := by
  split
  · rename_i h
    rw [List.getD_eq_getElem?_getD, List.getElem?_append_left h, ← List.getD_eq_getElem?_getD]
  · obtain rfl : j = l.length := by omega
    rw [List.getD_eq_getElem?_getD, List.getElem?_append_right (Nat.le_refl _), Nat.sub_self]
    rfl
theorem getD_at {l : List W8} {i : Nat} (h : i < l.length) : l.getD i z8 = l[i] := by
  rw [List.getD_eq_getElem?_getD, List.getElem?_eq_getElem h]
  rfl
theorem nm_put {l : List W8} (h : Nm l) (w : W8) : Nm (putL l w) := by
  unfold putL
  split
  · rename_i hm
    split
    · rename_i hi
      have hp : Pm (norm w) (l.getD (l.findIdx (mN w)) z8) = true := by rw [getD_at hi]; exact mN_at hi
      refine ⟨fun x hx => ?_, fun i j hij hj => ?_⟩
      · rcases List.mem_or_eq_of_mem_set hx with hx | rfl
        · exact h.1 x hx
        · exact ⟨may_norm hm, norm_norm w⟩
      · rw [List.length_set] at hj
        rw [getD_set (by omega), getD_set hj]
        have hij2 := h.2 i j hij hj
        split
        · rename_i e
          subst e
          rw [if_neg (by omega)]
          rw [← pm_trans hp]
          exact hij2
        · split
          · rename_i e
            subst e
            rw [pm_symm, ← pm_trans hp, pm_symm]
            exact hij2
          · exact hij2
    · split
      · exact h
      · rename_i hi _
        refine ⟨fun x hx => ?_, fun i j hij hj => ?_⟩
        · rcases List.mem_append.1 hx with hx | hx
          · exact h.1 x hx
          · rw [List.mem_singleton.1 hx]
            exact ⟨may_norm hm, norm_norm w⟩
        · rw [List.length_append, List.length_singleton] at hj
          rw [getD_app1 (by omega), getD_app1 (by omega), if_pos (by omega)]
          split
          · rename_i hj2
            exact h.2 i j hij hj2
          · rw [pm_symm, ← mN_eq]
            have hi' : l.findIdx (mN w) = l.length := by
              have := List.findIdx_le_length (xs := l) (p := mN w)
              omega
            rw [getD_at (by omega)]
            have := List.not_of_lt_findIdx (p := mN w) (xs := l) (i := i) (by omega)
            simpa using this
  · exact h
theorem nm_again {l : List W8} (h : Nm l) {i : Nat} (hi : i < l.length) : putL l (l.getD i z8) = l ∧ putE l (l.getD i z8) = 0 := by
  have hx := h.1 (l.getD i z8) (mem_getD hi)
  have hf : l.findIdx (mN (l.getD i z8)) = i := by
    rw [List.findIdx_eq hi]
    refine ⟨?_, fun j hj => ?_⟩
    · rw [mN_eq, hx.2, ← getD_at hi]
      exact pm_self _
    · rw [mN_eq, hx.2, pm_symm, ← getD_at (by omega)]
      exact h.2 j i hj hi
  unfold putL putE
  rw [hx.1, hf, if_pos rfl, if_pos hi, if_pos rfl, if_pos hi, hx.2]
  refine ⟨?_, rfl⟩
  rw [getD_at hi]
  exact List.set_getElem_self hi
theorem nm_pl (l : List W8) : Nm (pl l) := by
  have : ∀ (l out : List W8), Nm out → Nm (l.foldl putL out) := by
    intro l
    induction l with
    | nil => exact fun out h => h
    | cons x l ih => exact fun out h => ih _ (nm_put h x)
  exact this l [] nm_nil
theorem put_len (l : List W8) (w : W8) : (putL l w).length ≤ l.length + 1 := by
  unfold putL
  split
  · split
    · rw [List.length_set]; omega
    · split
      · omega
      · simp
  · omega
theorem pl_len (l : List W8) : (pl l).length ≤ l.length := by
  have : ∀ (l out : List W8), (l.foldl putL out).length ≤ out.length + l.length := by
    intro l
    induction l with
    | nil => exact fun out => by simp
    | cons x l ih =>
      intro out
      rw [List.foldl_cons, List.length_cons]
      have h1 := ih (putL out x)
      have h2 := put_len out x
      omega
  have := this l []
  simpa [pl] using this
/-- The answers of all puts. -/
def pe (l : List W8) (k : Nat) : Int := putE (pl (l.take k)) (l.getD k z8)
end Go.Proofs.Ytmdjbldmfmoaaaa.Bn
