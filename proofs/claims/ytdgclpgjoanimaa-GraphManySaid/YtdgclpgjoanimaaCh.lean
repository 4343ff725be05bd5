/- A chain of nodes, in plain lists: it is its own trimmed graph. -/
import Derived.Test.YtdgclpgjoanimaaPt
namespace Go.Proofs.Ytdgclpgjoanimaa.Ch
open Go.RowKit Go.Proofs.YtdgclpgjoanimaaW.PrintWords Go.Proofs.Ytdgclpgjoanimaa.Mb Go.Proofs.Ytdgclpgjoanimaa.Ba Go.Proofs.Ytdgclpgjoanimaa.Ma Go.Proofs.Ytdgclpgjoanimaa.Pu Go.Proofs.Ytdgclpgjoanimaa.To Go.Proofs.Ytdgclpgjoanimaa.Tr Go.Proofs.Ytdgclpgjoanimaa.Pt
set_option linter.unusedVariables false
def cn (N i : Nat) : N2 := ⟨0, if i + 1 < N then [⟨3, 0, 0, 0, ((i + 1 : Nat) : Int)⟩] else []⟩
def chain (N k : Nat) : List N2 := (List.range k).map (cn N)
def cg (N : Nat) : G3 := ⟨chain N N, [0], []⟩
def rg (m : Nat) : List Int := (List.range m).map (fun i : Nat => (i : Int))
theorem chain_len (N k : Nat) : (chain N k).length = k := by simp [chain]
theorem chain_succ (N k : Nat) : chain N (k + 1) = chain N k ++ [cn N k] := by unfold chain; rw [List.range_succ, List.map_append]; rfl
theorem chain_at (N k i : Nat) (h : i < k) : (chain N k).getD i zN = cn N i := by
  rw [List.getD_eq_getElem?_getD]
  simp [chain, h]
theorem rg_len (m : Nat) : (rg m).length = m := by simp [rg]
theorem rg_succ (m : Nat) : rg (m + 1) = rg m ++ [(m : Int)] := by unfold rg; rw [List.range_succ, List.map_append]; rfl
theorem rg_at (m i : Nat) (h : i < m) : (rg m).getD i 0 = (i : Int) := by
  rw [List.getD_eq_getElem?_getD]
  simp [rg, h]
theorem mem_rg {m : Nat} {x : Int} : x ∈ rg m ↔ 0 ≤ x ∧ x < (m : Int) := by
  unfold rg
  simp only [List.mem_map, List.mem_range]
  constructor
  · rintro ⟨i, hi, rfl⟩; omega
  · rintro ⟨h0, h1⟩; exact ⟨x.toNat, by omega, by omega⟩
theorem cg_len (N : Nat) : (cg N).ns.length = N := chain_len N N
theorem nd_cg (N i : Nat) (h : i < N) : nd (cg N) (i : Int) = cn N i := by
  unfold nd
  rw [Int.toNat_natCast]
  exact chain_at N N i h
theorem add_cg (N k : Nat) (h : k < N) : addFs N (rg (k + 1)) (cn N k).fs = rg (if k + 1 < N then k + 2 else k + 1) := by
  unfold cn
  by_cases h1 : k + 1 < N
  · rw [if_pos h1, if_pos h1]
    show addF N (rg (k + 1)) ⟨3, 0, 0, 0, ((k + 1 : Nat) : Int)⟩ = rg (k + 2)
    unfold addF
    rw [if_pos rfl]
    unfold addI
    rw [if_pos ⟨isB_iff.2 ⟨by show (0 : Int) ≤ ((k + 1 : Nat) : Int); omega, by show ((k + 1 : Nat) : Int) < (N : Int); omega⟩, fun hm => by have := (mem_rg.1 hm).2; simp only at this; omega⟩]
    exact (rg_succ (k + 1)).symm
  · rw [if_neg h1, if_neg h1]
    rfl
theorem bfs_cg (N : Nat) : ∀ d k, k < N → N = k + 1 + d → bfs (cg N) (N + 1 - k) k (rg (k + 1)) = rg N := by
  intro d
  induction d with
  | zero =>
    intro k hk hd
    have hs := bfs_step (g := cg N) (out := rg (k + 1)) (k := k) (by rw [rg_len]; omega) (by rw [rg_len, cg_len]; omega)
    rw [cg_len, rg_at _ _ (by omega), nd_cg N k hk, add_cg N k hk, if_neg (by omega)] at hs
    rw [hs, bfs_done (by rw [rg_len]; exact Nat.le_refl _)]
    rw [show N = k + 1 by omega]
  | succ d ih =>
    intro k hk hd
    have hs := bfs_step (g := cg N) (out := rg (k + 1)) (k := k) (by rw [rg_len]; omega) (by rw [rg_len, cg_len]; omega)
    rw [cg_len, rg_at _ _ (by omega), nd_cg N k hk, add_cg N k hk, if_pos (by omega)] at hs
    rw [hs]
    exact ih (k + 1) (by omega) (by omega)
theorem walk_cg (N : Nat) (h : 0 < N) : walkL (cg N) (cg N).rs = rg N := by
  have := bfs_cg N (N - 1) 0 h (by omega)
  unfold walkL
  rw [cg_len]
  have e : adds N [] (cg N).rs = rg 1 := by
    show addI N [] 0 = _
    unfold addI
    rw [if_pos ⟨isB_iff.2 ⟨by omega, by omega⟩, by simp⟩]
    rfl
  rw [e]
  exact this
theorem may_cg (N : Nat) (h : 0 < N) (h2 : N ≤ 4096) : mayG (cg N) = true := by
  unfold mayG
  rw [cg_len]
  simp only [Bool.and_eq_true, decide_eq_true_eq, List.all_eq_true]
  refine ⟨⟨h2, fun x hx => ?_⟩, fun x hx v hv => ?_⟩
  · obtain rfl : x = 0 := by simpa [cg] using hx
    unfold rootB
    rw [show isB N 0 = true from isB_iff.2 ⟨by omega, by omega⟩]
    simp
  · obtain ⟨i, hi, rfl⟩ := List.mem_map.1 (show x ∈ (List.range N).map (cn N) from hx)
    unfold cn at hv
    split at hv
    · rename_i h1
      rw [List.mem_singleton.1 hv]
      unfold fieldB
      rw [show isB N (⟨3, 0, 0, 0, ((i + 1 : Nat) : Int)⟩ : V5).ref = true from isB_iff.2 ⟨by show (0 : Int) ≤ ((i + 1 : Nat) : Int); omega, by show ((i + 1 : Nat) : Int) < (N : Int); omega⟩]
      rfl
    · simp at hv
theorem not_cg (N : Nat) (h2 : 4096 < N) : mayG (cg N) = false := by
  unfold mayG
  rw [cg_len, decide_eq_false (by omega)]
  rfl
theorem place_cg (N i : Nat) (h : 0 < N) (hi : i < N) : placeF (rg N) (i : Int) = (i : Int) := by
  have hg := gd_walk (cg N) (cg N).rs
  rw [walk_cg N h, cg_len] at hg
  have hm : (i : Int) ∈ rg N := mem_rg.2 ⟨by omega, by omega⟩
  rw [(place_in hm).1]
  have := idx_getD hg.1 (i := i) (by rw [rg_len]; exact hi)
  rw [rg_at N i hi] at this
  rw [this]
theorem pl_cg (N : Nat) (h : 0 < N) (i : Nat) (hi : i < N) : (placeL N (rg N)).getD i 0 = (i : Int) := by rw [placeL_at N _ i hi, place_cg N i h hi]
theorem trim_cg (N : Nat) (h : 0 < N) (h2 : N ≤ 4096) : trimL (cg N) = cg N := by
  unfold trimL
  rw [may_cg N h h2, if_pos rfl, walk_cg N h]
  have e1 : (rg N).map (nodeT (cg N) (placeL (cg N).ns.length (rg N))) = chain N N := by
    unfold rg chain
    rw [List.map_map]
    refine List.map_congr_left fun i hi => ?_
    rw [List.mem_range] at hi
    show nodeT (cg N) _ (i : Int) = cn N i
    unfold nodeT
    rw [nd_cg N i hi, cg_len]
    unfold cn
    split
    · rename_i h1
      show (⟨0, [toldP _ _]⟩ : N2) = _
      unfold toldP
      rw [if_neg (by show ¬ (3 : Int) = 1; decide), if_neg (by show ¬ (3 : Int) = 2; decide), if_pos rfl]
      show (⟨0, [⟨3, 0, 0, 0, (placeL N (rg N)).getD ((i + 1 : Nat) : Int).toNat 0⟩]⟩ : N2) = _
      rw [Int.toNat_natCast, pl_cg N h (i + 1) h1]
    · rfl
  have e2 : movedL (placeL (cg N).ns.length (rg N)) (cg N).rs = [0] := by
    show [mv _ 0] = _
    unfold mv
    rw [if_pos (by omega), cg_len]
    show [(placeL N (rg N)).getD 0 0] = _
    rw [pl_cg N h 0 h]
    rfl
  unfold trimW
  rw [e1, e2]
  rfl
theorem sz_cg (N : Nat) : Sz (cg N) := by
  refine ⟨by show [0].length ≤ 1000; simp, by show ([] : List Int).length ≤ 1000; simp, fun x hx => ?_⟩
  obtain ⟨i, hi, rfl⟩ := List.mem_map.1 (show x ∈ (List.range N).map (cn N) from hx)
  unfold cn
  split <;> simp
end Go.Proofs.Ytdgclpgjoanimaa.Ch
