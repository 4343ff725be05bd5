/- The closure, in plain lists: the fold that both texts reckon, and what it says. -/
import Derived.Test.YtgkjhnilgmokiaaCl
namespace Go.Proofs.Ytgkjhnilgmokiaa.Clo
open Go.Proofs.Ytgkjhnilgmokiaa.Cl
/-- Round by round: the references of the i-th are put behind. -/
def clo (R : Int → List Int) : Nat → List Int → Nat → List Int
  | 0, out, _ => out
  | n + 1, out, i => if i < out.length then clo R n (addL out (R (out.getD i 0))) (i + 1) else out
/-- Volatile objects, each once. -/
def Gd (l : List Int) : Prop := l.Nodup ∧ ∀ x ∈ l, vol x = true
theorem vol_iff {x : Int} : vol x = true ↔ -64 ≤ x ∧ x < 0 := by
  unfold vol
  simp
  omega
theorem gd_nil : Gd [] := ⟨List.nodup_nil, by simp⟩
theorem gd_stp {out : List Int} (h : Gd out) (x : Int) : Gd (stp out x) := by
  unfold stp
  split
  · rename_i hx
    refine ⟨?_, ?_⟩
    · rw [List.nodup_append]
      refine ⟨h.1, by simp, ?_⟩
      intro a ha b hb
      rw [List.mem_singleton] at hb
      subst hb
      exact fun e => hx.2 (e ▸ ha)
    · intro y hy
      rcases List.mem_append.1 hy with hy | hy
      · exact h.2 y hy
      · rw [List.mem_singleton.1 hy]; exact hx.1
  · exact h
theorem gd_addL {out : List Int} (h : Gd out) (xs : List Int) : Gd (addL out xs) := by
  unfold addL
  induction xs generalizing out with
  | nil => exact h
  | cons x xs ih => rw [List.foldl_cons]; exact ih (gd_stp h x)
theorem pigeon (n : Nat) : ∀ l : List Int, l.Nodup → (∀ x ∈ l, -(n : Int) ≤ x ∧ x < 0) → l.length ≤ n := by
  induction n with
  | zero =>
    intro l _ h
    cases l with
    | nil => simp
    | cons a l => have := h a List.mem_cons_self; omega
  | succ n ih =>
    intro l hn h
    have h1 := ih (l.erase (-((n + 1 : Nat) : Int))) (hn.erase _) (by
      intro x hx
      have hm := h x (List.mem_of_mem_erase hx)
      have hne : x ≠ -((n + 1 : Nat) : Int) := fun e => by rw [e] at hx; exact hn.not_mem_erase hx
      omega)
    rw [List.length_erase] at h1
    split at h1 <;> omega
theorem gd_le {l : List Int} (h : Gd l) : l.length ≤ 64 := pigeon 64 l h.1 fun x hx => by have := vol_iff.1 (h.2 x hx); omega
theorem gd_clo {R : Int → List Int} (n : Nat) : ∀ (out : List Int) (i : Nat), Gd out → Gd (clo R n out i) := by
  induction n with
  | zero => intro out i h; exact h
  | succ n ih =>
    intro out i h
    unfold clo
    split
    · exact ih _ _ (gd_addL h _)
    · exact h
/-- One round, where rounds are enough. -/
theorem clo_step {R : Int → List Int} {out : List Int} {i : Nat} (hi : i < out.length) (h65 : i < 65) : clo R (65 - i) out i = clo R (65 - (i + 1)) (addL out (R (out.getD i 0))) (i + 1) := by
  rw [show 65 - i = (65 - (i + 1)) + 1 by omega]
  conv => lhs; unfold clo
  rw [if_pos hi]
theorem clo_done {R : Int → List Int} {out : List Int} {i : Nat} (hi : out.length ≤ i) (n : Nat) : clo R n out i = out := by
  cases n with
  | zero => rfl
  | succ n => unfold clo; rw [if_neg (by omega)]
theorem addL_nil (out : List Int) : addL out [] = out := rfl
theorem addL_one (out : List Int) (x : Int) : addL out [x] = stp out x := rfl
theorem clo_none (n : Nat) : ∀ (out : List Int) (i : Nat), clo (fun _ => []) n out i = out := by
  induction n with
  | zero => intro out i; rfl
  | succ n ih =>
    intro out i
    unfold clo
    split
    · rw [addL_nil]; exact ih _ _
    · rfl
/-- The same references of what is volatile: the same closure. -/
theorem clo_congr {R S : Int → List Int} (h : ∀ x, vol x = true → R x = S x) (n : Nat) : ∀ (out : List Int) (i : Nat), Gd out → clo R n out i = clo S n out i := by
  induction n with
  | zero => intro out i _; rfl
  | succ n ih =>
    intro out i hg
    unfold clo
    split
    · rename_i hi
      have hm : out.getD i 0 ∈ out := by
        rw [List.getD_eq_getElem?_getD, List.getElem?_eq_getElem hi]
        exact List.getElem_mem hi
      rw [h _ (hg.2 _ hm)]
      exact ih _ _ (gd_addL hg _)
    · rfl
end Go.Proofs.Ytgkjhnilgmokiaa.Clo
