/-
  Words and values, where they are known.
-/
import Derived.Test.YtacfddlclbelmaaDoorVd
namespace Go.Proofs.YtacfddlclbelmaaDoor.Ve
open Go.RowKit Go.ChangeShapes Go.WideShapes Go.Proofs.YtacfddlclbelmaaDoorW.PrintWords Go.Proofs.YtacfddlclbelmaaDoor.Ba Go.Proofs.YtacfddlclbelmaaDoor.Va Go.Proofs.YtacfddlclbelmaaDoor.Vb Go.Proofs.YtacfddlclbelmaaDoor.Vc
set_option linter.unusedVariables false
set_option linter.unusedSimpArgs false
theorem u64_bd {n : Int} (h : (Lit.int .u64 n).wf = true) : 0 ≤ n ∧ n < 18446744073709551616 := by
  simp [Lit.wf, IntKind.min, IntKind.max, IntKind.signed, IntKind.bits] at h
  omega
theorem i64_bd {n : Int} (h : (Lit.int .i64 n).wf = true) : -9223372036854775808 ≤ n ∧ n ≤ 9223372036854775807 := by
  simp [Lit.wf, IntKind.min, IntKind.max, IntKind.signed, IntKind.bits] at h
  omega
theorem u64_nat {a : Int} (h : (Lit.int .u64 a).wf = true) : ∃ n : Nat, a = (n : Int) ∧ n < 18446744073709551616 := by
  obtain ⟨h0, h1⟩ := u64_bd h
  exact ⟨a.toNat, by omega, by omega⟩
theorem ru_C {w : World} {A : Option Addr} {l : List Int} (h : Kd.C (Kd.int .u64) w A l.length l) : RU w A l := by
  intro i hi
  obtain ⟨ad, e, hc⟩ := Kd.at_int h i (by omega) (by omega)
  rw [Int.toNat_natCast] at hc
  exact ⟨ad, e, hc⟩
theorem same_self {a : V5} (h : a.kd = 0 ∨ a.kd = 1 ∨ a.kd = 2 ∨ a.kd = 3) : sameV a a = true := by
  unfold sameV
  rcases h with h | h | h | h <;> simp [h]
theorem words_is {kind kd n re im ref : Int} {l : List Int} (h : wordsV kind ⟨kd, n, re, im, ref⟩ = some l) (hr : (Lit.int .i64 ref).wf = true) (w : World) : Calls Tryd.prog 10 #[.int .i64 kind, .agg #[.int .i64 kd, .int .i64 n, .int .u64 re, .int .u64 im, .int .i64 ref]] w fun e w' =>
    ∃ A c, e = .returned (.tuple #[.slice A l.length c, .bool true]) ∧ l.length ≤ c ∧ RU w' A l ∧ Below w.heap.size w w' := by
  have := words_any kind kd n re im ref hr w
  unfold WPost at this
  rw [h] at this
  exact this
theorem words_not {kind kd n re im ref : Int} (h : wordsV kind ⟨kd, n, re, im, ref⟩ = none) (hr : (Lit.int .i64 ref).wf = true) (w : World) : Calls Tryd.prog 10 #[.int .i64 kind, .agg #[.int .i64 kd, .int .i64 n, .int .u64 re, .int .u64 im, .int .i64 ref]] w fun e w' =>
    ∃ A c, e = .returned (.tuple #[.slice A 0 c, .bool false]) ∧ Below w.heap.size w w' := by
  refine (words_any kind kd n re im ref hr w).mono fun e w' ⟨A, c, he, _, _, hb⟩ => ⟨A, c, ?_, hb⟩
  rw [h] at he
  exact he
theorem of_is {kind : Int} {l : List Int} {a b c d e : Int} (h : ofV kind l = some ⟨a, b, c, d, e⟩) (A : Option Addr) (k : Nat) (w : World) (hr : RU w A l) (hw : ∀ x ∈ l, 0 ≤ x ∧ x < 18446744073709551616) : Calls Tryd.prog 12 #[.int .i64 kind, .slice A l.length k] w fun e' w' =>
    e' = .returned (.tuple #[.agg #[.int .i64 a, .int .i64 b, .int .u64 c, .int .u64 d, .int .i64 e], .bool true]) ∧ Below w.heap.size w w' := by
  have := of_any kind A k l w hr hw
  unfold OPost at this
  rw [h] at this
  exact this
theorem of_not {kind : Int} {l : List Int} (h : ofV kind l = none) (A : Option Addr) (k : Nat) (w : World) (hr : RU w A l) (hw : ∀ x ∈ l, 0 ≤ x ∧ x < 18446744073709551616) : Calls Tryd.prog 12 #[.int .i64 kind, .slice A l.length k] w fun e' w' =>
    e' = .returned (.tuple #[.agg #[.int .i64 0, .int .i64 0, .int .u64 0, .int .u64 0, .int .i64 0], .bool false]) ∧ Below w.heap.size w w' := by
  have := of_any kind A k l w hr hw
  unfold OPost at this
  rw [h] at this
  exact this
theorem back64 {n : Int} (h : (Lit.int .i64 n).wf = true) : wrap64 (IntKind.u64.wrap n) = n := by
  obtain ⟨h0, h1⟩ := i64_bd h
  rw [IntKind.wrap_u64]
  unfold wrap64
  omega
end Go.Proofs.YtacfddlclbelmaaDoor.Ve
