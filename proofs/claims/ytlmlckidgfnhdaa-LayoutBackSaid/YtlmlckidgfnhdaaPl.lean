/- Where parts stand: line, size, within, Need, light, place. -/
import Derived.Test.YtlmlckidgfnhdaaKx
import Derived.Deep.RegionLaw
namespace Go.Proofs.Ytlmlckidgfnhdaa.Pl
open Go.RowKit Go.ChangeShapes Go.WideShapes Go.Proofs.YtlmlckidgfnhdaaW.PrintWords Go.Proofs.Ytlmlckidgfnhdaa.Ba Go.Proofs.Ytlmlckidgfnhdaa.Kw
set_option linter.unusedVariables false
set_option linter.unusedSimpArgs false
def ln (x : Int) : Int := (x + 7) / 8 * 8
theorem ln_b {x : Int} (h0 : 0 ≤ x) : x ≤ ln x ∧ ln x ≤ x + 7 ∧ ln x % 8 = 0 := by unfold ln; omega
theorem ln_up {x y : Int} (h : x ≤ y) : ln x ≤ ln y := by unfold ln; omega
theorem line_any (x : Int) (w : World) (h0 : 0 ≤ x) (h1 : x ≤ 1000000) : Calls Try.prog 51 #[.int .i64 x] w fun e w' => e = .returned (.int .i64 (ln x)) ∧ w = w' := by
  have a1 : IntKind.i64.wrap (x + 8) = x + 8 := Go.IntWalk.i64_in _ (by omega)
  have a2 : IntKind.i64.wrap (x + 8 - 1) = x + 8 - 1 := Go.IntWalk.i64_in _ (by omega)
  have t1 : (x + 8 - 1).tdiv 8 = (x + 7) / 8 := by rw [show x + 8 - 1 = x + 7 by omega, Int.tdiv_eq_ediv_of_nonneg (by omega)]
  have a3 : IntKind.i64.wrap ((x + 7) / 8) = (x + 7) / 8 := Go.IntWalk.i64_in _ (by omega)
  have a4 : IntKind.i64.wrap ((x + 7) / 8 * 8) = ln x := Go.IntWalk.i64_in _ (by omega)
  go_enter Try.func51, Try.ntmps51
  go_wp2
  go_ret
  refine ⟨?_, rfl⟩
  show Ending.returned (.int .i64 _) = _
  simp only [a2, t1, a3, a4]
theorem rline_any (x : Int) (w : World) (h0 : 0 ≤ x) (h1 : x ≤ 1000000) : Calls Try.prog 44 #[.int .i64 x] w fun e w' => e = .returned (.int .i64 (ln x)) ∧ w = w' := by
  have a1 : IntKind.i64.wrap (x + 8) = x + 8 := Go.IntWalk.i64_in _ (by omega)
  have a2 : IntKind.i64.wrap (x + 8 - 1) = x + 8 - 1 := Go.IntWalk.i64_in _ (by omega)
  have t1 : (x + 8 - 1).tdiv 8 = (x + 7) / 8 := by rw [show x + 8 - 1 = x + 7 by omega, Int.tdiv_eq_ediv_of_nonneg (by omega)]
  have a3 : IntKind.i64.wrap ((x + 7) / 8) = (x + 7) / 8 := Go.IntWalk.i64_in _ (by omega)
  have a4 : IntKind.i64.wrap ((x + 7) / 8 * 8) = ln x := Go.IntWalk.i64_in _ (by omega)
  go_enter Try.func44, Try.ntmps44
  go_wp2
  go_ret
  refine ⟨?_, rfl⟩
  show Ending.returned (.int .i64 _) = _
  simp only [a2, t1, a3, a4]
def sz (k : Int) : Int := if k = 0 then 2 else if k = 1 then 4 else if k = 2 then 8 else 16
theorem size_any (k : Int) (w : World) (h0 : 0 ≤ k) (h1 : k ≤ 3) : Calls Try.prog 36 #[.int .i64 k] w fun e w' => e = .returned (.int .i64 (sz k)) ∧ w = w' := by
  have h : k = 0 ∨ k = 1 ∨ k = 2 ∨ k = 3 := by omega
  clear h0 h1
  rcases h with rfl | rfl | rfl | rfl
  all_goals
    go_enter Try.func36, Try.ntmps36
    go_wp2
    go_ret
    exact ⟨rfl, rfl⟩
theorem rsize_any (k : Int) (w : World) (h0 : 0 ≤ k) (h1 : k ≤ 3) : Calls Try.prog 45 #[.int .i64 k] w fun e w' => e = .returned (.int .i64 (sz k)) ∧ w = w' := by
  have h : k = 0 ∨ k = 1 ∨ k = 2 ∨ k = 3 := by omega
  clear h0 h1
  rcases h with rfl | rfl | rfl | rfl
  all_goals
    go_enter Try.func45, Try.ntmps45
    go_wp2
    go_ret
    exact ⟨rfl, rfl⟩
theorem within_any (n m : Int) (w : World) : Calls Try.prog 49 #[.int .i64 n, .int .i64 m] w fun e w' => e = .returned (.bool (decide (0 ≤ n) && decide (n ≤ m))) ∧ w = w' := by
  by_cases h0 : 0 ≤ n
  · have e : (decide (0 ≤ n) && decide (n ≤ m)) = decide (n ≤ m) := by simp [h0]
    rw [e]
    clear e
    go_enter Try.func49, Try.ntmps49
    go_wp2
    go_ret
    exact ⟨rfl, rfl⟩
  · have d0 : decide (0 ≤ n) = false := by simp [h0]
    rw [d0, Bool.false_and]
    go_enter Try.func49, Try.ntmps49
    go_wp2
    go_ret
    exact ⟨rfl, rfl⟩
theorem need_any (w : World) : Calls Try.prog 50 #[.int .i64 16] w fun e w' => e = .returned (.int .i64 40) ∧ w = w' := by
  go_enter Try.func50, Try.ntmps50
  go_wp2
  go_ret
  exact ⟨rfl, rfl⟩
theorem rneed_any (w : World) : Calls Try.prog 31 #[.int .i64 16] w fun e w' => e = .returned (.int .i64 40) ∧ w = w' := by
  go_enter Try.func31, Try.ntmps31
  go_wp2
  go_ret
  exact ⟨rfl, rfl⟩
/-- The elements of an array of four, held as a value. -/
theorem idx4 (b0 b1 b2 b3 : Int) : (∀ W : World, (Instr.index 23 (.agg #[.int .i64 b0, .int .i64 b1, .int .i64 b2, .int .i64 b3]) (.int .i64 0)).run Try.prog W = .ok (.int .i64 b0) W) ∧
    (∀ W : World, (Instr.index 23 (.agg #[.int .i64 b0, .int .i64 b1, .int .i64 b2, .int .i64 b3]) (.int .i64 1)).run Try.prog W = .ok (.int .i64 b1) W) ∧
    (∀ W : World, (Instr.index 23 (.agg #[.int .i64 b0, .int .i64 b1, .int .i64 b2, .int .i64 b3]) (.int .i64 2)).run Try.prog W = .ok (.int .i64 b2) W) ∧
    (∀ W : World, (Instr.index 23 (.agg #[.int .i64 b0, .int .i64 b1, .int .i64 b2, .int .i64 b3]) (.int .i64 3)).run Try.prog W = .ok (.int .i64 b3) W) :=
  ⟨fun W => by kernel_rfl, fun W => by kernel_rfl, fun W => by kernel_rfl, fun W => by kernel_rfl⟩
theorem size0 (w : World) : Calls Try.prog 36 #[.int .i64 0] w fun e w' => e = .returned (.int .i64 2) ∧ w = w' := size_any 0 w (by decide) (by decide)
theorem size1 (w : World) : Calls Try.prog 36 #[.int .i64 1] w fun e w' => e = .returned (.int .i64 4) ∧ w = w' := size_any 1 w (by decide) (by decide)
theorem size2 (w : World) : Calls Try.prog 36 #[.int .i64 2] w fun e w' => e = .returned (.int .i64 8) ∧ w = w' := size_any 2 w (by decide) (by decide)
theorem size3 (w : World) : Calls Try.prog 36 #[.int .i64 3] w fun e w' => e = .returned (.int .i64 16) ∧ w = w' := size_any 3 w (by decide) (by decide)
theorem rsize0 (w : World) : Calls Try.prog 45 #[.int .i64 0] w fun e w' => e = .returned (.int .i64 2) ∧ w = w' := rsize_any 0 w (by decide) (by decide)
theorem rsize1 (w : World) : Calls Try.prog 45 #[.int .i64 1] w fun e w' => e = .returned (.int .i64 4) ∧ w = w' := rsize_any 1 w (by decide) (by decide)
theorem rsize2 (w : World) : Calls Try.prog 45 #[.int .i64 2] w fun e w' => e = .returned (.int .i64 8) ∧ w = w' := rsize_any 2 w (by decide) (by decide)
theorem rsize3 (w : World) : Calls Try.prog 45 #[.int .i64 3] w fun e w' => e = .returned (.int .i64 16) ∧ w = w' := rsize_any 3 w (by decide) (by decide)
end Go.Proofs.Ytlmlckidgfnhdaa.Pl
