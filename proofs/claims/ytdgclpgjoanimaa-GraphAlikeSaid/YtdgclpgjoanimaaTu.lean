/- Plain and turned, by their contracts. -/
import Derived.Test.YtdgclpgjoanimaaTp
import Derived.Test.YtdgclpgjoanimaaLw
namespace Go.Proofs.Ytdgclpgjoanimaa.Tu
open Go.RowKit Go.ChangeShapes Go.WideShapes Go.Proofs.YtdgclpgjoanimaaW.PrintWords Go.Proofs.Ytdgclpgjoanimaa.Ba Go.Proofs.Ytdgclpgjoanimaa.Ma Go.Proofs.Ytdgclpgjoanimaa.Mb Go.Proofs.Ytdgclpgjoanimaa.Pu Go.Proofs.Ytdgclpgjoanimaa.Wa Go.Proofs.Ytdgclpgjoanimaa.To Go.Proofs.Ytdgclpgjoanimaa.Tr Go.Proofs.Ytdgclpgjoanimaa.Tp
set_option linter.unusedVariables false
def PlainPost (v : V5) (w : World) (e : Ending) (w' : World) : Prop := e = .returned (agg5 (plainV v)) ∧ Below w.heap.size w w'
set_option maxHeartbeats 4000000 in
theorem plain_any (v : V5) (w : World) : Calls Try.prog 31 #[agg5 v] w (PlainPost v w) := by
  obtain ⟨f0, f1, f2, f3, f4⟩ := v
  unfold agg5
  dsimp only
  have hz : ∀ w, (zeroValue 37).run Try.prog w = .ok (.agg #[.int .i64 0, .int .i64 0, .int .u64 0, .int .u64 0, .int .i64 0]) w := fun w => by kernel_rfl
  by_cases e1 : f0 = 1
  · subst e1
    have HT : Hid (plainV ⟨1, f1, f2, f3, f4⟩ = ⟨1, f1, 0, 0, 0⟩) := Lib.hid rfl
    go_enter Try.func31, Try.ntmps31
    go_wp2
    exact bodyPost_ret (v := agg5 ⟨1, f1, 0, 0, 0⟩) (by simp [results, Try.results31, go_sem, agg5]) rfl ⟨by rw [HT.out], (((Below.refl _ _).alloc (Nat.le_refl _) _).alloc (by simp) _)⟩
  · by_cases e2 : f0 = 2
    · subst e2
      have HT : Hid (plainV ⟨2, f1, f2, f3, f4⟩ = ⟨2, 0, f2, f3, 0⟩) := Lib.hid rfl
      go_enter Try.func31, Try.ntmps31
      go_wp2
      exact bodyPost_ret (v := agg5 ⟨2, 0, f2, f3, 0⟩) (by simp [results, Try.results31, go_sem, agg5]) rfl ⟨by rw [HT.out], (((Below.refl _ _).alloc (Nat.le_refl _) _).alloc (by simp) _)⟩
    · by_cases e3 : f0 = 3
      · subst e3
        have HT : Hid (plainV ⟨3, f1, f2, f3, f4⟩ = ⟨3, 0, 0, 0, f4⟩) := Lib.hid rfl
        go_enter Try.func31, Try.ntmps31
        go_wp2
        exact bodyPost_ret (v := agg5 ⟨3, 0, 0, 0, f4⟩) (by simp [results, Try.results31, go_sem, agg5]) rfl ⟨by rw [HT.out], (((Below.refl _ _).alloc (Nat.le_refl _) _).alloc (by simp) _)⟩
      · have HT : Hid (plainV ⟨f0, f1, f2, f3, f4⟩ = ⟨f0, 0, 0, 0, 0⟩) := Lib.hid (by unfold plainV; dsimp only; rw [if_neg e1, if_neg e2, if_neg e3])
        have b1 : (f0 == 1) = false := by rw [beq_eq_false_iff_ne]; exact e1
        have b2 : (f0 == 2) = false := by rw [beq_eq_false_iff_ne]; exact e2
        have b3 : (f0 == 3) = false := by rw [beq_eq_false_iff_ne]; exact e3
        clear e1 e2 e3
        go_enter Try.func31, Try.ntmps31
        go_wp2
        exact bodyPost_ret (v := agg5 ⟨f0, 0, 0, 0, 0⟩) (by simp [results, Try.results31, go_sem, agg5]) rfl ⟨by rw [HT.out], (((Below.refl _ _).alloc (Nat.le_refl _) _).alloc (by simp) _)⟩
theorem at_any (p q n b : Nat) (x : Int) (w : World) (hp : w.heap[p]? = some (.cells #[.int .i64 (b : Int)] 3 (0, 0))) (hq : w.heap[q]? = some (.cells #[.int .i64 (n : Int)] 3 (0, 0))) (hx : x < (n : Int)) (hb : b < n) (hn : n ≤ 100000) :
    Calls Try.prog 30 #[.int .i64 x, .pointer (some ⟨p, 0, none⟩), .pointer (some ⟨q, 0, none⟩)] w fun e w' => e = .returned (.int .i64 (tat n b x)) ∧ w = w' := by
  have c0 := cell_of_one hp
  have c1 := cell_of_one hq
  clear hp hq
  by_cases h0 : x < 0
  · have HT : Hid (tat n b x = x) := Lib.hid (by unfold tat; rw [if_pos h0])
    go_enter Try.func30, Try.ntmps30
    go_wp2
    go_ret
    rw [HT.out]
    exact ⟨rfl, rfl⟩
  · have HT := Lib.hid (tat_mod (x := x) (by omega) hx hb)
    have s1 : IntKind.i64.wrap (x + (b : Int)) = x + (b : Int) := by rw [Go.IntWalk.i64_in _ (by omega)]
    have hr := tat_in (n := n) (isB_iff.2 ⟨by omega, hx⟩) hb
    have hr2 := isB_iff.1 hr.1
    have n0 : ¬ ((n : Int) = 0) := by omega
    rw [← HT.out] at hr2
    have s2 : IntKind.i64.wrap ((x + (b : Int)).tmod (n : Int)) = (x + (b : Int)).tmod (n : Int) := by rw [Go.IntWalk.i64_in _ (by omega)]
    clear hr
    go_enter Try.func30, Try.ntmps30
    go_wp2
    go_ret
    rw [← HT.out, Int.tmod_eq_emod_of_nonneg (by omega)]
    exact ⟨rfl, rfl⟩
/-- The nodes set so far. -/
def NL (g : G3) (b k : Nat) : List N2 := (List.range g.ns.length).map (fun j : Nat => if tin g.ns.length b (j : Int) < (k : Int) then tnode g b (tin g.ns.length b (j : Int)) else zN)
theorem NL_len (g : G3) (b k : Nat) : (NL g b k).length = g.ns.length := by simp [NL]
theorem NL_get (g : G3) (b k i : Nat) (h : i < (NL g b k).length) : (NL g b k)[i] = if tin g.ns.length b (i : Int) < (k : Int) then tnode g b (tin g.ns.length b (i : Int)) else zN := by simp [NL]
theorem NL_all (g : G3) (b : Nat) (hb : b < g.ns.length) : NL g b g.ns.length = (turnG g b).ns := by
  unfold NL turnG
  refine List.map_congr_left fun j hj => ?_
  rw [List.mem_range] at hj
  have : tin g.ns.length b (j : Int) < (g.ns.length : Int) := by unfold tin; split <;> omega
  rw [if_pos this]
theorem NL_zero (g : G3) (b : Nat) (hb : b < g.ns.length) : NL g b 0 = List.replicate g.ns.length zN := by
  refine List.ext_getElem (by simp [NL]) fun i h1 h2 => ?_
  rw [List.getElem_replicate]
  rw [NL_get]
  rw [NL_len] at h1
  have : ¬ tin g.ns.length b (i : Int) < ((0 : Nat) : Int) := by unfold tin; split <;> omega
  rw [if_neg this]
theorem NL_step (g : G3) {b k : Nat} (hb : b < g.ns.length) (hk : k < g.ns.length) : NL g b (k + 1) = (NL g b k).set (tat g.ns.length b (k : Int)).toNat (tnode g b (k : Int)) := by
  obtain ⟨h1, h2⟩ := tat_in (n := g.ns.length) (x := (k : Int)) (isB_iff.2 ⟨by omega, by omega⟩) hb
  obtain ⟨h3, h4⟩ := isB_iff.1 h1
  refine List.ext_getElem (by simp [NL]) fun i hi1 hi2 => ?_
  rw [NL_len] at hi1
  rw [List.getElem_set, NL_get, NL_get]
  by_cases e : (tat g.ns.length b (k : Int)).toNat = i
  · rw [if_pos e]
    have e2 : tin g.ns.length b (i : Int) = (k : Int) := by rw [← h2]; congr 1; omega
    rw [e2, if_pos (by omega)]
  · rw [if_neg e]
    have hne : tin g.ns.length b (i : Int) ≠ (k : Int) := by
      intro e2
      apply e
      unfold tin at e2
      unfold tat
      rw [if_neg (by omega)]
      split at e2 <;> split <;> omega
    by_cases h : tin g.ns.length b (i : Int) < (k : Int)
    · rw [if_pos h, if_pos (by omega)]
    · rw [if_neg h, if_neg (by omega)]
theorem tv_plain (n b : Nat) (v : V5) : tval n b v = (if v.kd = 3 then ⟨3, 0, 0, 0, tat n b v.ref⟩ else plainV v) := rfl
end Go.Proofs.Ytdgclpgjoanimaa.Tu
