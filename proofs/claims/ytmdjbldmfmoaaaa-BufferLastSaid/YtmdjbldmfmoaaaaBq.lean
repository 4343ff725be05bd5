/- The buffer, in plain lists: of each place the last one counts, where it came first. -/
import Derived.Test.YtmdjbldmfmoaaaaBs
namespace Go.Proofs.Ytmdjbldmfmoaaaa.Bq
open Go.RowKit Go.Proofs.YtmdjbldmfmoaaaaW.PrintWords Go.Proofs.Ytmdjbldmfmoaaaa.Ba Go.Proofs.Ytmdjbldmfmoaaaa.Bu Go.Proofs.Ytmdjbldmfmoaaaa.Bw Go.Proofs.Ytmdjbldmfmoaaaa.Bl Go.Proofs.Ytmdjbldmfmoaaaa.Bn Go.Proofs.Ytmdjbldmfmoaaaa.Bs
set_option linter.unusedVariables false
/-- The last one of x's place. -/
def lst (x : W8) (T : List W8) : W8 := T.foldl (fun a y => if Pm x y = true then y else a) x
theorem lst_snoc (x : W8) (T : List W8) (w : W8) : lst x (T ++ [w]) = if Pm x w = true then w else lst x T := by
  unfold lst
  rw [List.foldl_append]
  rfl
theorem lst_place (x : W8) (T : List W8) : Pm x (lst x T) = true := by
  have h : ∀ (T : List W8) (a : W8), Pm x a = true → Pm x (T.foldl (fun a y => if Pm x y = true then y else a) a) = true := by
    intro T
    induction T with
    | nil => exact fun a h => h
    | cons y T ih =>
      intro a h
      rw [List.foldl_cons]
      refine ih _ ?_
      split
      · assumption
      · exact h
  exact h T x (pm_self x)
theorem lst_mem (x : W8) (T : List W8) : lst x T = x ∨ lst x T ∈ T := by
  have h : ∀ (T : List W8) (a : W8), T.foldl (fun a y => if Pm x y = true then y else a) a = a ∨ T.foldl (fun a y => if Pm x y = true then y else a) a ∈ T := by
    intro T
    induction T with
    | nil => exact fun a => .inl rfl
    | cons y T ih =>
      intro a
      rw [List.foldl_cons]
      rcases ih (if Pm x y = true then y else a) with h | h
      · rw [h]
        split
        · exact .inr List.mem_cons_self
        · exact .inl rfl
      · exact .inr (List.mem_cons_of_mem _ h)
  exact h T x
/-- No earlier one is of its place. -/
def Fst (T : List W8) (i : Nat) : Prop := ∀ j, j < i → Pm (T.getD i z8) (T.getD j z8) = false
instance (T : List W8) (i : Nat) : Decidable (Fst T i) := inferInstanceAs (Decidable (∀ j, j < i → _))
def cnt (T : List W8) (i : Nat) : Nat := ((List.range i).filter fun j => decide (Fst T j)).length
theorem cnt_succ (T : List W8) (i : Nat) : cnt T (i + 1) = cnt T i + if Fst T i then 1 else 0 := by
  unfold cnt
  rw [List.range_succ, List.filter_append, List.length_append, List.filter_cons]
  by_cases h : Fst T i
  · rw [if_pos h, decide_eq_true h]; rfl
  · rw [if_neg h, decide_eq_false h]; rfl
theorem cnt_mono (T : List W8) {i j : Nat} (h : i ≤ j) : cnt T i ≤ cnt T j := by
  induction j with
  | zero =>
    have : i = 0 := by omega
    rw [this]
    exact Nat.le_refl _
  | succ j ih =>
    by_cases e : i = j + 1
    · rw [e]; exact Nat.le_refl _
    · have := ih (by omega)
      rw [cnt_succ]
      omega
theorem cnt_lt (T : List W8) {i j : Nat} (h : i < j) (hf : Fst T i) : cnt T i < cnt T j := by
  have h1 := cnt_mono T (show i + 1 ≤ j from h)
  rw [cnt_succ, if_pos hf] at h1
  omega
theorem cnt_onto (T : List W8) (n p : Nat) (h : p < cnt T n) : ∃ i, i < n ∧ Fst T i ∧ cnt T i = p := by
  induction n with
  | zero => simp [cnt] at h
  | succ n ih =>
    rw [cnt_succ] at h
    by_cases hp : p < cnt T n
    · obtain ⟨i, h1, h2, h3⟩ := ih hp
      exact ⟨i, by omega, h2, h3⟩
    · by_cases hf : Fst T n
      · rw [if_pos hf] at h
        exact ⟨n, by omega, hf, by omega⟩
      · rw [if_neg hf] at h
        omega
theorem fst_app {T : List W8} {w : W8} {i : Nat} (h : i < T.length) : Fst (T ++ [w]) i ↔ Fst T i := by
  unfold Fst
  constructor
  · intro hf j hj
    have := hf j hj
    rw [getD_app1 (by omega), getD_app1 (by omega), if_pos (by omega), if_pos (by omega)] at this
    exact this
  · intro hf j hj
    rw [getD_app1 (by omega), getD_app1 (by omega), if_pos (by omega), if_pos (by omega)]
    exact hf j hj
theorem cnt_app {T : List W8} {w : W8} {i : Nat} (h : i ≤ T.length) : cnt (T ++ [w]) i = cnt T i := by
  unfold cnt
  congr 1
  refine List.filter_congr fun j hj => ?_
  rw [List.mem_range] at hj
  rw [decide_eq_decide]
  exact fst_app (by omega)
/-- Two firsts of one place are one. -/
theorem fst_one {T : List W8} {i j : Nat} (hi : Fst T i) (hj : Fst T j) (h : Pm (T.getD i z8) (T.getD j z8) = true) : i = j := by
  rcases Nat.lt_trichotomy i j with hl | hl | hl
  · have := hj i hl
    rw [pm_symm, h] at this
    cases this
  · exact hl
  · have := hi j hl
    rw [h] at this
    cases this
/-- There is a first of each place. -/
theorem fst_ex {T : List W8} {x : W8} : ∀ (n : Nat), (∃ i, i < n ∧ Pm x (T.getD i z8) = true) → ∃ i, i < n ∧ Fst T i ∧ Pm x (T.getD i z8) = true := by
  intro n
  induction n with
  | zero => rintro ⟨i, hi, _⟩; omega
  | succ n ih =>
    rintro ⟨i, hi, hp⟩
    by_cases h : ∃ i, i < n ∧ Pm x (T.getD i z8) = true
    · obtain ⟨j, h1, h2⟩ := ih h
      exact ⟨j, by omega, h2⟩
    · have hin : i = n := by
        apply Classical.byContradiction
        intro hne
        exact h ⟨i, by omega, hp⟩
      subst hin
      refine ⟨i, by omega, fun j hj => ?_, hp⟩
      cases e : Pm (T.getD i z8) (T.getD j z8)
      · rfl
      · exact absurd ⟨j, hj, by rw [← pm_trans hp]; exact e⟩ h
theorem norm_place (w b : W8) : Pm (norm w) b = Pm w b := by
  rw [pm_symm, pm_symm w b]
  exact norm_match w
/-- THE LAW: what stands in the buffer behind all puts. -/
theorem pl_last (T : List W8) (hm : ∀ x ∈ T, mayB x = true) (hl : T.length ≤ 60) : (pl T).length = cnt T T.length ∧ ∀ i, i < T.length → Fst T i → (pl T).getD (cnt T i) z8 = norm (lst (T.getD i z8) T) := by
  suffices H : ∀ n, n ≤ T.length → (pl (T.take n)).length = cnt (T.take n) n ∧ ∀ i, i < n → Fst (T.take n) i → (pl (T.take n)).getD (cnt (T.take n) i) z8 = norm (lst ((T.take n).getD i z8) (T.take n)) by
    have := H T.length (Nat.le_refl _)
    rw [List.take_length] at this
    exact this
  intro n
  induction n with
  | zero => exact fun _ => ⟨by simp [pl, cnt], fun i hi => by omega⟩
  | succ n ih =>
    intro hn
    obtain ⟨ih1, ih2⟩ := ih (by omega)
    have et : T.take (n + 1) = T.take n ++ [T.getD n z8] := take_snoc T z8 n (by omega)
    have hw := hm (T.getD n z8) (mem_getD (by omega))
    have hS : (T.take n).length = n := by rw [List.length_take]; omega
    obtain ⟨w, hwe⟩ : ∃ w, T.getD n z8 = w := ⟨_, rfl⟩
    rw [et, pl_snoc]
    rw [hwe] at hw ⊢
    have hN := nm_pl (T.take n)
    have hlen : (pl (T.take n)).length < 64 := by have := pl_len (T.take n); omega
    obtain ⟨S, hSe⟩ : ∃ S, T.take n = S := ⟨_, rfl⟩
    rw [hSe] at ih1 ih2 hS hN hlen ⊢
    -- an entry's place
    have hplace : ∀ i, i < n → Fst S i → Pm w ((pl S).getD (cnt S i) z8) = Pm w (S.getD i z8) := by
      intro i hi hf
      rw [ih2 i hi hf, pm_symm w, norm_place, pm_symm w (S.getD i z8)]
      rw [← pm_trans (lst_place (S.getD i z8) S)]
    by_cases hex : ∃ i, i < n ∧ Pm w (S.getD i z8) = true
    · obtain ⟨i0, h0, hf0, hp0⟩ := fst_ex n hex
      have hc0 : cnt S i0 < (pl S).length := by rw [ih1]; exact cnt_lt S h0 hf0
      have hidx : (pl S).findIdx (mN w) = cnt S i0 := by
        rw [List.findIdx_eq hc0]
        have hq : Pm w ((pl S).getD (cnt S i0) z8) = true := by rw [hplace i0 h0 hf0]; exact hp0
        refine ⟨by rw [mN_eq, norm_place, ← getD_at hc0]; exact hq, fun j hj => ?_⟩
        rw [mN_eq, norm_place, ← getD_at (by omega)]
        cases e : Pm w ((pl S).getD j z8)
        · rfl
        · have h1 := hN.2 j (cnt S i0) hj hc0
          rw [pm_trans (a := w) e, hq] at h1
          cases h1
      have hput : putL (pl S) w = (pl S).set (cnt S i0) (norm w) := by
        unfold putL
        rw [hw, if_pos rfl, hidx, if_pos hc0]
      have hnf : ¬ Fst (S ++ [w]) n := by
        intro hf
        have := hf i0 h0
        rw [getD_app1 (by omega), getD_app1 (by omega), if_neg (by omega), if_pos (by omega), hp0] at this
        cases this
      rw [hput, List.length_set]
      refine ⟨by rw [cnt_succ, if_neg hnf, cnt_app (by omega)]; omega, fun i hi hf => ?_⟩
      have hin : i ≠ n := fun e => hnf (e ▸ hf)
      have hfi := (fst_app (w := w) (by omega : i < S.length)).1 hf
      have hci : cnt S i < (pl S).length := by rw [ih1]; exact cnt_lt S (by omega) hfi
      have hgd : (S ++ [w]).getD i z8 = S.getD i z8 := by rw [getD_app1 (by omega), if_pos (by omega)]
      rw [cnt_app (by omega), getD_set hci, hgd, lst_snoc]
      by_cases e : i0 = i
      · subst e
        rw [if_pos rfl, pm_symm, hp0, if_pos rfl]
      · have hne : cnt S i0 ≠ cnt S i := by
          rcases Nat.lt_or_gt_of_ne e with h | h
          · have := cnt_lt S h hf0; omega
          · have := cnt_lt S h hfi; omega
        rw [if_neg hne, ih2 i (by omega) hfi]
        cases e2 : Pm (S.getD i z8) w
        · rfl
        · exfalso
          apply e
          refine fst_one hf0 hfi ?_
          rw [pm_trans (a := w) hp0, pm_symm]
          exact e2
    · have hno : ∀ i, i < n → Pm w (S.getD i z8) = false := by
        intro i hi
        cases e : Pm w (S.getD i z8)
        · rfl
        · exact absurd ⟨i, hi, e⟩ hex
      have hidx : (pl S).findIdx (mN w) = (pl S).length := by
        refine List.findIdx_eq_length.2 fun y hy => ?_
        obtain ⟨p, hp, e⟩ := List.mem_iff_getElem.1 hy
        obtain ⟨i, h1, h2, h3⟩ := cnt_onto S n p (by rw [← ih1]; exact hp)
        have h4 := hplace i h1 h2
        rw [h3, getD_at hp, e, hno i h1] at h4
        rw [mN_eq, norm_place, h4]
      have hput : putL (pl S) w = pl S ++ [norm w] := by
        unfold putL
        rw [hw, if_pos rfl, hidx, if_neg (by omega), if_neg (by omega)]
      have hfn : Fst (S ++ [w]) n := by
        intro j hj
        rw [getD_app1 (by omega), getD_app1 (by omega), if_neg (by omega), if_pos (by omega)]
        exact hno j hj
      rw [hput, List.length_append]
      refine ⟨by rw [cnt_succ, if_pos hfn, cnt_app (by omega), ih1]; rfl, fun i hi hf => ?_⟩
      rw [cnt_app (by omega)]
      by_cases e : i = n
      · subst e
        rw [← ih1, getD_app1 (Nat.le_refl _), if_neg (by omega), getD_app1 (by omega), if_neg (by omega), lst_snoc, pm_self, if_pos rfl]
      · have hfi := (fst_app (w := w) (by omega : i < S.length)).1 hf
        have hci : cnt S i < (pl S).length := by rw [ih1]; exact cnt_lt S (by omega) hfi
        rw [getD_app1 (by omega), if_pos hci, getD_app1 (by omega), if_pos (by omega), lst_snoc, pm_symm, hno i (by omega), ih2 i (by omega) hfi]
        rfl
/-- Told, it is the same. -/
theorem sv_told {v : V5} (h0 : 0 ≤ v.kd) (h3 : v.kd ≤ 3) : svB (told5 v) v = true := by
  have : v.kd = 0 ∨ v.kd = 1 ∨ v.kd = 2 ∨ v.kd = 3 := by omega
  unfold svB told5
  rcases this with h | h | h | h <;> simp [h, z5]
end Go.Proofs.Ytmdjbldmfmoaaaa.Bq
