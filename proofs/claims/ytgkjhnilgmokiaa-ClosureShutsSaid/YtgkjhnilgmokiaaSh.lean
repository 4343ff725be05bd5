/- The shut closure's two maps, in plain lists. -/
import Derived.Test.YtgkjhnilgmokiaaEn
namespace Go.Proofs.Ytgkjhnilgmokiaa.Sh
open Go.RowKit Go.Proofs.YtgkjhnilgmokiaaW.PrintWords Go.Proofs.Ytgkjhnilgmokiaa.Cl Go.Proofs.Ytgkjhnilgmokiaa.Clo Go.Proofs.Ytgkjhnilgmokiaa.W8 Go.Proofs.Ytgkjhnilgmokiaa.Of Go.Proofs.Ytgkjhnilgmokiaa.Clm Go.Proofs.Ytgkjhnilgmokiaa.Co Go.Proofs.Ytgkjhnilgmokiaa.Fx Go.Proofs.Ytgkjhnilgmokiaa.En
set_option linter.unusedVariables false
def atF (l : List Int) (x : Int) : Option Int := if x ∈ l then some ((l.idxOf x : Int) + 1) else none
theorem nodup_take {X : List Int} (h : X.Nodup) {m : Nat} (hm : m < X.length) : X.getD m 0 ∉ X.take m := by
  intro hx
  obtain ⟨j, hj, e⟩ := List.mem_iff_getElem.1 hx
  rw [List.length_take] at hj
  rw [List.getElem_take, List.getD_eq_getElem?_getD, List.getElem?_eq_getElem hm, Option.getD_some] at e
  have := (List.getElem_inj h).1 e
  omega
theorem atF_next {X : List Int} (h : X.Nodup) {m : Nat} (hm : m < X.length) : (fun k => if k = X.getD m 0 then some ((m : Int) + 1) else atF (X.take m) k) = atF (X.take (m + 1)) := by
  funext k
  rw [take_next X m hm]
  unfold atF
  have hl : (X.take m).length = m := by rw [List.length_take]; omega
  by_cases e : k = X.getD m 0
  · subst e
    rw [if_pos rfl, if_pos (by simp), List.idxOf_append, if_neg (nodup_take h hm), hl]
    simp
  · rw [if_neg e]
    by_cases hk : k ∈ X.take m
    · rw [if_pos hk, if_pos (List.mem_append_left _ hk), List.idxOf_append, if_pos hk]
    · rw [if_neg hk, if_neg]
      intro hx
      rcases List.mem_append.1 hx with hx | hx
      · exact hk hx
      · exact e (List.mem_singleton.1 hx)
theorem atF_new {X : List Int} (h : X.Nodup) {m : Nat} (hm : m < X.length) : (atF (X.take m) (X.getD m 0)).getD 0 = 0 := by
  unfold atF
  rw [if_neg (nodup_take h hm)]
  rfl
theorem idx_at {X : List Int} (h : X.Nodup) {m : Nat} (hm : m < X.length) : X.idxOf (X.getD m 0) = m := by
  have h1 : X.getD m 0 ∈ X := mem_getD hm
  have h2 : X.idxOf (X.getD m 0) < X.length := List.idxOf_lt_length_iff.2 h1
  have h3 : X[X.idxOf (X.getD m 0)] = X.getD m 0 := List.getElem_idxOf h2
  have e : X.getD m 0 = X[m] := by rw [List.getD_eq_getElem?_getD, List.getElem?_eq_getElem hm, Option.getD_some]
  exact (List.getElem_inj h).1 (h3.trans e)
theorem atF_pos {X : List Int} {x : Int} (h : x ∈ X) : (atF X x).getD 0 = (X.idxOf x : Int) + 1 := by
  unfold atF
  rw [if_pos h]
  rfl
theorem atF_none {X : List Int} {x : Int} (h : x ∉ X) : (atF X x).getD 0 = 0 := by
  unfold atF
  rw [if_neg h]
  rfl
theorem inF_add (L : List Int) (y : Int) : (fun k => if k = y then some 1 else inF L k) = inF (L ++ [y]) := by
  funext k
  unfold inF
  by_cases e : k = y
  · subst e
    rw [if_pos rfl, if_pos (by simp)]
  · rw [if_neg e]
    have : k ∈ L ++ [y] ↔ k ∈ L := by rw [List.mem_append, List.mem_singleton]; exact ⟨fun h => h.resolve_right e, .inl⟩
    by_cases hk : k ∈ L
    · rw [if_pos hk, if_pos (this.2 hk)]
    · rw [if_neg hk, if_neg (fun h => hk (this.1 h))]
/-- What the chosen writes refer to. -/
def refsL (l : List W8) : List Int := (l.filter sel).map fun x => x.v.ref
theorem refsL_snoc (l : List W8) (x : W8) : refsL (l ++ [x]) = refsL l ++ (if sel x = true then [x.v.ref] else []) := by
  unfold refsL
  rw [List.filter_append, List.map_append, List.filter_cons]
  split <;> rfl
theorem sd_refs (l : List W8) : ∀ x ∈ sd l, x ∈ refsL l := by
  have h : ∀ (l : List W8) (out : List Int) (x : Int), x ∈ l.foldl sd1 out → x ∈ out ∨ x ∈ refsL l := by
    intro l
    induction l with
    | nil => exact fun out x h => .inl h
    | cons y l ih =>
      intro out x h
      rw [List.foldl_cons] at h
      have hc : refsL (y :: l) = (if sel y = true then [y.v.ref] else []) ++ refsL l := by
        unfold refsL
        rw [List.filter_cons]
        split <;> rfl
      rcases ih _ _ h with h | h
      · unfold sd1 at h
        split at h
        · rename_i hs
          obtain ⟨e, h1, h2⟩ := stp_ext out y.v.ref
          rw [h1] at h
          rcases List.mem_append.1 h with h | h
          · exact .inl h
          · refine .inr ?_
            rw [hc, if_pos hs, h2 x h]
            simp
        · exact .inl h
      · refine .inr ?_
        rw [hc]
        exact List.mem_append_right _ h
  intro x hx
  rcases h l [] x hx with h | h
  · cases h
  · exact h
theorem sd_has {l : List W8} {k : Nat} (hk : k < l.length) (hs : sel (l.getD k z8) = true) (hv : vol (l.getD k z8).v.ref = true) : (l.getD k z8).v.ref ∈ sd l := by
  have e : l = l.take k ++ (l.getD k z8 :: l.drop (k + 1)) := by
    rw [List.getD_eq_getElem?_getD, List.getElem?_eq_getElem hk, Option.getD_some, ← List.drop_eq_getElem_cons hk, List.take_append_drop]
  have h2 : sd l = (l.drop (k + 1)).foldl sd1 (sd1 (sd (l.take k)) (l.getD k z8)) := by
    conv => lhs; rw [e]
    rw [sd_app, List.foldl_cons]
  rw [h2]
  apply fold_sub
  rw [sd1_yes _ hs]
  exact stp_mem hv
/-- What the second map holds by then. -/
def FI (R : Int → List Int) (l : List W8) (X : List Int) (i : Nat) (x : Int) : Prop := x ∈ refsL l ∨ ∃ j, j < i ∧ x ∈ R (X.getD j 0) ∧ x ∈ X ∧ j < X.idxOf x
theorem fi_own {R : Int → List Int} {l : List W8} {X : List Int} (hX : clo R 65 (sd l) 0 = X) {i : Nat} (hi : i < X.length) : FI R l X i (X.getD i 0) := by
  have hn : X.Nodup := by rw [← hX]; exact (gd_clo 65 _ 0 (gd_sd l)).1
  by_cases h : i < (sd l).length
  · left
    apply sd_refs
    obtain ⟨e, he⟩ := clo_prefix (R := R) 65 (sd l) 0
    rw [hX] at he
    rw [he, getD_app h]
    exact mem_getD h
  · right
    have hf := clo_from (R := R) (sd l).length 65 (sd l) 0 (by omega) (fun k h1 h2 => by omega)
    rw [hX] at hf
    obtain ⟨j, hj, hr⟩ := hf i (by omega) hi
    exact ⟨j, hj, hr, mem_getD hi, by rw [idx_at hn hi]; exact hj⟩
theorem fi_next {R : Int → List Int} {l : List W8} {X : List Int} {i : Nat} {g : Int → Option Int} (h : ∀ x, FI R l X i x → g x = some 1) (hr : ∀ q, q < (R (X.getD i 0)).length → (R (X.getD i 0)).getD q 0 ∈ X → i < X.idxOf ((R (X.getD i 0)).getD q 0) → g ((R (X.getD i 0)).getD q 0) = some 1) :
    ∀ x, FI R l X (i + 1) x → g x = some 1 := by
  intro x hx
  rcases hx with hx | ⟨j, hj, h1, h2, h3⟩
  · exact h x (.inl hx)
  · by_cases e : j = i
    · subst e
      obtain ⟨q, hq, e2⟩ := List.mem_iff_getElem.1 h1
      have e3 : (R (X.getD j 0)).getD q 0 = x := by rw [List.getD_eq_getElem?_getD, List.getElem?_eq_getElem hq]; exact e2
      have := hr q hq
      rw [e3] at this
      exact this h2 h3
    · exact h x (.inr ⟨j, by omega, h1, h2, h3⟩)
def b1 (n : Nat) : List Int := (List.range n).map fun j : Nat => 100 + (j : Int)
theorem b1_len (n : Nat) : (b1 n).length = n := by simp [b1]
theorem b1_snoc (n : Nat) : b1 (n + 1) = b1 n ++ [100 + (n : Int)] := by simp [b1, List.range_succ]
theorem b1_get (n i : Nat) (h : i < n) : (b1 n).getD i 0 = 100 + (i : Int) := by simp [b1, h]
theorem fixed_lasting {objs : List Int} {n : Nat} {v r : V5} (h : Fxd objs (b1 n) v r) : r.kd ≠ 3 ∨ 0 ≤ r.ref := by
  cases h with
  | num h => left; simp
  | cplx h => left; simp
  | other h1 h2 h3 => exact .inl h3
  | found h k hk ho hb =>
    right
    rw [b1_len] at hb
    rw [b1_get _ _ hb]
    show (0 : Int) ≤ 100 + (k : Int)
    omega
  | gone h hr hn => left; simp
  | kept h hr hn => exact .inr hr
end Go.Proofs.Ytgkjhnilgmokiaa.Sh
