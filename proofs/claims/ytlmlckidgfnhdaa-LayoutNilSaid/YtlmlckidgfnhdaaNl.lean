/- Of no layout. -/
import Derived.Test.YtlmlckidgfnhdaaAw
namespace Go.Proofs.Ytlmlckidgfnhdaa.Nl
open Go.RowKit Go.ChangeShapes Go.WideShapes Go.Proofs.YtlmlckidgfnhdaaW.PrintWords Go.Proofs.Ytlmlckidgfnhdaa.Ba
set_option linter.unusedVariables false
set_option linter.unusedSimpArgs false
def Gives (v : Value) (w : World) (e : Ending) (w' : World) : Prop := e = .returned v ∧ w = w'
theorem log_nil (w : World) : Calls Try.prog 20 #[.pointer none] w (Gives (.tuple #[.int .i64 0, .int .i64 0]) w) := by
  go_enter Try.func20, Try.ntmps20
  go_wp2
  go_ret2
  exact ⟨rfl, rfl⟩
theorem range_nil (b : Int) (w : World) : Calls Try.prog 21 #[.pointer none, .int .i64 b] w (Gives (.tuple #[.int .i64 0, .int .i64 0]) w) := by
  go_enter Try.func21, Try.ntmps21
  go_wp2
  go_ret2
  exact ⟨rfl, rfl⟩
theorem blocks_nil (w : World) : Calls Try.prog 14 #[.pointer none] w (Gives (.int .i64 0) w) := by
  go_enter Try.func14, Try.ntmps14
  go_wp2_with fail
  refine (range_nil 3 w).mono ?_
  rintro e w1 ⟨rfl, rfl⟩
  go_wp2
  go_ret
  exact ⟨rfl, rfl⟩
theorem pages_nil (w : World) : Calls Try.prog 15 #[.pointer none] w (Gives (.int .i64 0) w) := by
  go_enter Try.func15, Try.ntmps15
  go_wp2_with fail
  refine (blocks_nil w).mono ?_
  rintro e w1 ⟨rfl, rfl⟩
  go_wp2
  go_ret
  exact ⟨rfl, rfl⟩
theorem class_nil (b : Int) (w : World) : Calls Try.prog 23 #[.pointer none, .int .i64 b] w (Gives (.int .i64 (-1)) w) := by
  go_enter Try.func23, Try.ntmps23
  go_wp2
  go_loop [8] (fun i => i = .int .i64 0 ∨ i = .int .i64 1 ∨ i = .int .i64 2 ∨ i = .int .i64 3 ∨ i = .int .i64 4) (fun i => 4 - (intOf i).toNat)
  case atStart => exact .inl rfl
  case round =>
    rcases hrel with rfl | rfl | rfl | rfl | rfl
    · by_cases h0 : 0 ≤ b
      · have d1 : decide (b < 0) = false := decide_eq_false (by omega)
        go_wp2_with fail
        refine (range_nil 0 w).mono ?_
        rintro e w1 ⟨rfl, rfl⟩
        go_wp2
        go_round
        case rel => exact .inr (.inl rfl)
        case measure => simp [intOf]
      · have d1 : decide (0 ≤ b) = false := decide_eq_false h0
        go_wp2_with fail
        refine (range_nil 0 w).mono ?_
        rintro e w1 ⟨rfl, rfl⟩
        go_wp2
        go_round
        case rel => exact .inr (.inl rfl)
        case measure => simp [intOf]
    · by_cases h0 : 0 ≤ b
      · have d1 : decide (b < 0) = false := decide_eq_false (by omega)
        go_wp2_with fail
        refine (range_nil 1 w).mono ?_
        rintro e w1 ⟨rfl, rfl⟩
        go_wp2
        go_round
        case rel => exact .inr (.inr (.inl rfl))
        case measure => simp [intOf]
      · have d1 : decide (0 ≤ b) = false := decide_eq_false h0
        go_wp2_with fail
        refine (range_nil 1 w).mono ?_
        rintro e w1 ⟨rfl, rfl⟩
        go_wp2
        go_round
        case rel => exact .inr (.inr (.inl rfl))
        case measure => simp [intOf]
    · by_cases h0 : 0 ≤ b
      · have d1 : decide (b < 0) = false := decide_eq_false (by omega)
        go_wp2_with fail
        refine (range_nil 2 w).mono ?_
        rintro e w1 ⟨rfl, rfl⟩
        go_wp2
        go_round
        case rel => exact .inr (.inr (.inr (.inl rfl)))
        case measure => simp [intOf]
      · have d1 : decide (0 ≤ b) = false := decide_eq_false h0
        go_wp2_with fail
        refine (range_nil 2 w).mono ?_
        rintro e w1 ⟨rfl, rfl⟩
        go_wp2
        go_round
        case rel => exact .inr (.inr (.inr (.inl rfl)))
        case measure => simp [intOf]
    · by_cases h0 : 0 ≤ b
      · have d1 : decide (b < 0) = false := decide_eq_false (by omega)
        go_wp2_with fail
        refine (range_nil 3 w).mono ?_
        rintro e w1 ⟨rfl, rfl⟩
        go_wp2
        go_round
        case rel => exact .inr (.inr (.inr (.inr rfl)))
        case measure => simp [intOf]
      · have d1 : decide (0 ≤ b) = false := decide_eq_false h0
        go_wp2_with fail
        refine (range_nil 3 w).mono ?_
        rintro e w1 ⟨rfl, rfl⟩
        go_wp2
        go_round
        case rel => exact .inr (.inr (.inr (.inr rfl)))
        case measure => simp [intOf]
    · go_wp2
      go_ret
      exact ⟨rfl, rfl⟩
theorem size_nil (b : Int) (w : World) : Calls Try.prog 22 #[.pointer none, .int .i64 b] w (Gives (.int .i64 (0)) w) := by
  go_enter Try.func22, Try.ntmps22
  go_wp2_with fail
  refine (class_nil b w).mono ?_
  rintro e w1 ⟨rfl, rfl⟩
  go_wp2
  go_ret
  exact ⟨rfl, rfl⟩
theorem at_nil (b : Int) (w : World) : Calls Try.prog 13 #[.pointer none, .int .i64 b] w (Gives (.int .i64 (-1)) w) := by
  go_enter Try.func13, Try.ntmps13
  go_wp2_with fail
  refine (class_nil b w).mono ?_
  rintro e w1 ⟨rfl, rfl⟩
  go_wp2
  go_ret
  exact ⟨rfl, rfl⟩
theorem bits_nil (b : Int) (w : World) : Calls Try.prog 24 #[.pointer none, .int .i64 b] w (Gives (.int .i64 (-1)) w) := by
  go_enter Try.func24, Try.ntmps24
  go_wp2_with fail
  refine (class_nil b w).mono ?_
  rintro e w1 ⟨rfl, rfl⟩
  go_wp2
  go_ret
  exact ⟨rfl, rfl⟩
theorem root_nil (b : Int) (w : World) : Calls Try.prog 25 #[.pointer none, .int .i64 b] w (Gives (.int .i64 (-1)) w) := by
  go_enter Try.func25, Try.ntmps25
  go_wp2
  go_ret
  exact ⟨rfl, rfl⟩
theorem weak_nil (b : Int) (w : World) : Calls Try.prog 26 #[.pointer none, .int .i64 b] w (Gives (.int .i64 (-1)) w) := by
  go_enter Try.func26, Try.ntmps26
  go_wp2
  go_ret
  exact ⟨rfl, rfl⟩
theorem super_nil (w : World) : Calls Try.prog 19 #[.pointer none] w (Gives (.slice none 0 0) w) := by
  go_enter Try.func19, Try.ntmps19
  go_wp2
  go_ret
  exact ⟨rfl, rfl⟩
theorem info25 : (Try.prog.info? 25).map (·.size) = some 8 := by kernel_rfl
theorem config_nil (w : World) : Calls Try.prog 27 #[.pointer none] w fun e w' => e = .returned (.agg #[.slice none 0 0, .int .i64 0, .int .i64 0, .int .i64 0, .int .i64 0, .int .i64 0, .int .i64 0, .int .i64 0]) ∧ Below w.heap.size w w' := by
  have hz25 : ∀ w, (zeroValue 25).run Try.prog w = .ok (.agg #[.slice none 0 0, .int .i64 0, .int .i64 0, .int .i64 0, .int .i64 0, .int .i64 0, .int .i64 0, .int .i64 0]) w := fun w => by kernel_rfl
  have HX := Lib.hid (heap_alloc_new w (.cells #[.slice none 0 0, .int .i64 0, .int .i64 0, .int .i64 0, .int .i64 0, .int .i64 0, .int .i64 0, .int .i64 0] 25))
  have HB := Lib.hid ((Below.refl w.heap.size w).alloc (Nat.le_refl _) (.cells #[.slice none 0 0, .int .i64 0, .int .i64 0, .int .i64 0, .int .i64 0, .int .i64 0, .int .i64 0, .int .i64 0] 25))
  go_enter Try.func27, Try.ntmps27
  go_wp2
  (try simp only [Exit.inBlock, Exit.then])
  refine bodyPost_ret (results_cell_row rfl _ _ w.heap.size 25 _ (0, 0) _ rfl HX.out Try.underlying25 rfl info25) rfl ?_
  exact ⟨rfl, HB.out⟩
end Go.Proofs.Ytlmlckidgfnhdaa.Nl
