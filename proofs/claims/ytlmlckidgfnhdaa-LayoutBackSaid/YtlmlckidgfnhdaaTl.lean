/- What is parsed is what was written: in plain words; a word of a row turned. -/
import Derived.Test.YtlmlckidgfnhdaaPp
import Derived.Test.YtlmlckidgfnhdaaSu
import Derived.Laws.Bits64
namespace Go.Proofs.Ytlmlckidgfnhdaa.Tl
open Go.RowKit Go.ChangeShapes Go.WideShapes Go.Proofs.YtlmlckidgfnhdaaW.PrintWords Go.Proofs.Ytlmlckidgfnhdaa.Ba Go.Proofs.Ytlmlckidgfnhdaa.Kw Go.Proofs.Ytlmlckidgfnhdaa.Pc Go.Proofs.Ytlmlckidgfnhdaa.My Go.Proofs.Ytlmlckidgfnhdaa.Wb Go.Proofs.Ytlmlckidgfnhdaa.Wd Go.Proofs.Ytlmlckidgfnhdaa.Kp Go.Proofs.Ytlmlckidgfnhdaa.Pp Go.Proofs.Ytlmlckidgfnhdaa.Su
set_option linter.unusedVariables false
set_option linter.unusedSimpArgs false
theorem getD_l {α : Type} (l m : List α) (d : α) (i : Nat) (h : i < l.length) : (l ++ m).getD i d = l.getD i d := by
  rw [List.getD_eq_getElem?_getD, List.getElem?_append_left h, ← List.getD_eq_getElem?_getD]
theorem getD_r {α : Type} (l : List α) (x d : α) {i : Nat} (h : i = l.length) : (l ++ [x]).getD i d = x := by
  subst h
  rw [List.getD_eq_getElem?_getD, List.getElem?_append_right (Nat.le_refl _), Nat.sub_self]
  rfl
theorem kds_get (ws : List Nat) (n j : Nat) (h : j < n) : (kds ws n).getD j [] = fl (ws.getD (9 + j) 0) := by
  induction n with
  | zero => omega
  | succ n ih =>
    show (kds ws n ++ [fl (ws.getD (9 + n) 0)]).getD j [] = _
    by_cases e : j < n
    · rw [getD_l _ _ _ _ (by rw [kds_len]; exact e)]; exact ih e
    · obtain rfl : j = n := by omega
      rw [getD_r _ _ _ (kds_len ws j).symm]
theorem allK_get {ws : List Nat} {n : Nat} (h : allK ws n = true) (j : Nat) (hj : j < n) : kP (ws.getD (9 + j) 0) = true := by
  cases e : kP (ws.getD (9 + j) 0) with
  | true => rfl
  | false => rw [allK_no hj e] at h; cases h
theorem ext_getD {xs ys : List Nat} (hl : xs.length = ys.length) (h : ∀ t, t < xs.length → xs.getD t 0 = ys.getD t 0) : xs = ys := by
  refine List.ext_getElem hl fun i h1 h2 => ?_
  have := h i h1
  rw [List.getD_eq_getElem?_getD, List.getElem?_eq_getElem h1, List.getD_eq_getElem?_getD, List.getElem?_eq_getElem h2] at this
  exact this
theorem sW_len (r e l b0 b1 b2 b3 : Nat) (ks : List (List Int)) : (sW r e l b0 b1 b2 b3 ks).length = 9 + ks.length := by
  unfold sW
  rw [List.length_append, List.length_map]
  rfl
theorem sW_tail (r e l b0 b1 b2 b3 : Nat) (ks : List (List Int)) (j : Nat) (h : j < ks.length) : (sW r e l b0 b1 b2 b3 ks).getD (9 + j) 0 = wordK (ks.getD j []) := by
  unfold sW
  rw [List.getD_eq_getElem?_getD, List.getElem?_append_right (by show 9 ≤ 9 + j; omega), show 9 + j - (hd9 r e l b0 b1 b2 b3 ks.length).length = j by show 9 + j - 9 = j; omega, List.getElem?_map, List.getD_eq_getElem?_getD, List.getElem?_eq_getElem h]
  rfl
theorem num_eq {x y : Nat} (h : (num x : Int) = (y : Int)) (hx : x ≤ 4096) : x = y := by
  rw [num_id hx] at h
  omega
/-- What is parsed as c is what c is written as. -/
theorem told {ws : List Nat} {ks : List (List Int)} {r e l b0 b1 b2 b3 : Nat} (h : Ok ws) (hl : ws.length = 9 + ks.length) (he : cfW ws = ⟨ks, b0, b1, b2, b3, r, e, l⟩) : ws = sW r e l b0 b1 b2 b3 ks := by
  have hk : kds ws (kN ws) = ks := congrArg Cf.ks he
  have hn : kN ws = ks.length := by rw [← hk, kds_len]
  refine ext_getD (by rw [hl, sW_len]) fun t ht => ?_
  by_cases h9 : t < 9
  · have ht9 : t = 0 ∨ t = 1 ∨ t = 2 ∨ t = 3 ∨ t = 4 ∨ t = 5 ∨ t = 6 ∨ t = 7 ∨ t = 8 := by omega
    rcases ht9 with rfl | rfl | rfl | rfl | rfl | rfl | rfl | rfl | rfl
    · exact h.s
    · exact num_eq (congrArg Cf.ro he) (h.small 1 (by omega) (by omega))
    · exact num_eq (congrArg Cf.we he) (h.small 2 (by omega) (by omega))
    · exact num_eq (congrArg Cf.lg he) (h.small 3 (by omega) (by omega))
    · exact num_eq (congrArg Cf.b0 he) (h.small 4 (by omega) (by omega))
    · exact num_eq (congrArg Cf.b1 he) (h.small 5 (by omega) (by omega))
    · exact num_eq (congrArg Cf.b2 he) (h.small 6 (by omega) (by omega))
    · exact num_eq (congrArg Cf.b3 he) (h.small 7 (by omega) (by omega))
    · show ws.getD 8 0 = ks.length
      rw [← h.w8.2]; exact hn
  · obtain ⟨j, rfl⟩ : ∃ j, t = 9 + j := ⟨t - 9, by omega⟩
    have hj : j < ks.length := by omega
    rw [sW_tail _ _ _ _ _ _ _ _ _ hj, ← hk, kds_get ws _ j (by omega)]
    have hp := allK_get h.k j (by omega)
    unfold kP at hp
    rw [Bool.and_eq_true, decide_eq_true_eq] at hp
    exact hp.2.symm
theorem flip_ne (x m : Nat) : x ^^^ 2 ^ m ≠ x := by
  intro h
  have h1 := congrArg (fun y => Nat.testBit y m) h
  simp [Nat.testBit_xor, Nat.testBit_two_pow_self] at h1
/-- A row of the call's own, one word of which is another. -/
theorem RU.store {w : World} {base : Nat} {v : Value} {l : List Nat} (h : RU w base v l) (h0 : 0 < l.length) (i : Nat) (hi : i < l.length) (y : Nat) :
    ∃ g c, v = .slice (some ⟨g, 0, none⟩) l.length c ∧ base ≤ g ∧ g < w.heap.size ∧ l.length ≤ c ∧ w.cell? ⟨g, i, none⟩ = some (.int .u64 ((l.getD i 0 : Nat) : Int)) ∧ w.frozen? ⟨g, i, none⟩ = false ∧ WR (w.setCell ⟨g, i, none⟩ (.int .u64 (y : Int))) (some ⟨g, 0, none⟩) (l.set i y) := by
  have hb : ∀ k, v.ownBlock = some k → base ≤ k := own_base h
  have hlt : ∀ k, v.ownBlock = some k → k < w.heap.size := own_lt h
  have hty : ∀ k, v.ownBlock = some k → ∃ cs, w.heap[k]? = some (.cells cs 30 (0, 0)) := own_typed h
  have hcl := h
  rcases h.2 with ⟨rfl, h1⟩ | ⟨g, cap, cur, rfl, _, _, hcap, _⟩
  · omega
  · obtain ⟨cs, hcs⟩ := hty g rfl
    have hcell : ∀ t, t < l.length → w.cell? ⟨g, t, none⟩ = some (.int .u64 ((l.getD t 0 : Nat) : Int)) := by
      intro t ht
      have := World.ownsRow.cells hcl rfl t (eU (l.getD t 0)) (by rw [List.getElem?_map, List.getElem?_eq_getElem ht, List.getD_eq_getElem?_getD, List.getElem?_eq_getElem ht]; rfl)
      rw [show (Addr.mk g 0 none).add t = ⟨g, t, none⟩ by unfold Addr.add; split <;> simp_all] at this
      exact this
    refine ⟨g, cap, rfl, hb g rfl, hlt g rfl, ?_, hcell i hi, blk_frozen hcs i, ?_⟩
    · exact hcap
    · intro t ht
      rw [List.length_set] at ht
      refine ⟨_, rfl, ?_⟩
      rw [show (Addr.mk g 0 none).add t = ⟨g, t, none⟩ by unfold Addr.add; split <;> simp_all, blk_cell (blk_set hcs i _)]
      have h2 := hcell t ht
      rw [blk_cell hcs] at h2
      have hsz : t < cs.size := (Array.getElem?_eq_some_iff.1 h2).1
      rw [Array.getElem?_setIfInBounds, List.getD_eq_getElem?_getD, List.getElem?_set]
      by_cases e : i = t
      · subst e
        rw [if_pos rfl, if_pos hsz, if_pos rfl, if_pos ht]
        rfl
      · rw [if_neg e, if_neg e, h2, List.getD_eq_getElem?_getD]
end Go.Proofs.Ytlmlckidgfnhdaa.Tl
