/-
  Small laws of worlds; the complex numbers' words; the law's own call.
-/
import Derived.Test.YtogejpepaggagaaDoorRows
import Derived.Test.YtogejpepaggagaaDoorNum
import Derived.Test.YtogejpepaggagaaDoorOpen
import Derived.WalkKit
import Derived.WalkSpells
import Derived.WalkLawsBesides
import Derived.WalkMore
import Derived.Lib.Hide
import Derived.Maps.AppendAt
import Derived.WalkArith
import Derived.IntWalk
import Derived.Deep.QuietTactic
import Derived.BigQuiet
import Derived.Laws.Bits64
namespace Go.Proofs.YtogejpepaggagaaDoor.Ba
open Go.RowKit Go.Proofs.YtogejpepaggagaaDoorW.PrintWords Go.Proofs.YtogejpepaggagaaDoor.Cx
set_option linter.unusedVariables false
theorem size_al (w : World) (b : Obj) : (w.alloc b).heap.size = w.heap.size + 1 := by
  show (w.heap.push b).size = _
  rw [Array.size_push]
theorem grown_set (w : World) (g k : Nat) (v : Value) : w.grownBy (w.setCell ⟨g, k, none⟩ v) (some g) :=
  ⟨rfl, rfl, rfl, by simp [World.setCell], fun j _ hne => Below.heap_setCell w _ v j (fun e => hne (by rw [e]))⟩
theorem below_of_grown {a b : World} {g n : Nat} (h : a.grownBy b (some g)) (hg : n ≤ g) (hn : n ≤ a.heap.size) : Below n a b :=
  ⟨h.os, h.tape, h.output, h.size, fun k hk => h.block k (Nat.lt_of_lt_of_le hk hn) (fun e => by cases e; omega)⟩
theorem bel_one (w : World) (a : Obj) : Below w.heap.size w (w.alloc a) := (Below.refl w.heap.size w).alloc (Nat.le_refl _) a
theorem cell_old {w w' : World} {a : Addr} {v : Value} (hc : w.cell? a = some v) (hb : ∀ k, k < w.heap.size → w'.heap[k]? = w.heap[k]?) : w'.cell? a = some v := by
  rw [← hc]
  have hlt : a.block < w.heap.size := by
    cases hh : w.heap[a.block]? with
    | none =>
      unfold World.cell? at hc
      rw [hh] at hc
      simp at hc
    | some x => exact (Array.getElem?_eq_some_iff.1 hh).1
  unfold World.cell?
  rw [hb _ hlt]
theorem drewN_below (w : World) (n : Nat) : Below w.heap.size w (w.drewN n) := ⟨rfl, rfl, rfl, Nat.le_refl _, fun _ _ => rfl⟩
end Go.Proofs.YtogejpepaggagaaDoor.Ba
namespace Go.Proofs.YtogejpepaggagaaDoor.Vb
open Go.RowKit Go.Proofs.YtogejpepaggagaaDoor.Ba Go.Proofs.YtogejpepaggagaaDoor.Cx
set_option linter.unusedVariables false
theorem frombits (n : Int) (w : World) : (callFunc 11 #[.int .u64 n]).run Tryd.prog w = .ok (.value (.float .f64 n.toNat)) w := by
  rw [run_callFunc_extern Tryd.func11 (by kernel_rfl) (by kernel_rfl) (by kernel_rfl) (e := Extern.MathFloatBits.float64frombits) (by kernel_rfl)]
  rfl
theorem bits (n : Nat) (w : World) : (callFunc 20 #[.float .f64 n]).run Tryd.prog w = .ok (.value (.int .u64 n)) w := by
  rw [run_callFunc_extern Tryd.func20 (by kernel_rfl) (by kernel_rfl) (by kernel_rfl) (e := Extern.MathFloatBits.float64bits) (by kernel_rfl)]
  rfl
theorem words33 (x y : Nat) (w : World) : Calls Tryd.prog 15 #[.complex .f64 x y] w fun e w' => e = .returned (.tuple #[.int .u64 x, .int .u64 y]) ∧ w = w' := by
  have hb := bits
  go_enter Tryd.func15, Tryd.ntmps15
  go_wp2
  go_ret2
  exact ⟨rfl, rfl⟩
theorem words35 (x y : Nat) (w : World) : Calls Tryd.prog 17 #[.complex .f64 x y] w fun e w' => e = .returned (.tuple #[.int .u64 x, .int .u64 y]) ∧ w = w' := by
  have hb := bits
  go_enter Tryd.func17, Tryd.ntmps17
  go_wp2
  go_ret2
  exact ⟨rfl, rfl⟩
theorem of32 (x y : Int) (w : World) : Calls Tryd.prog 13 #[.int .u64 x, .int .u64 y] w fun e w' => e = .returned (.complex .f64 x.toNat y.toNat) ∧ w = w' := by
  have hb := frombits
  go_enter Tryd.func13, Tryd.ntmps13
  go_wp2
  go_ret
  exact ⟨rfl, rfl⟩
theorem of19 (x y : Int) (w : World) : Calls Tryd.prog 4 #[.int .u64 x, .int .u64 y] w fun e w' => e = .returned (.complex .f64 x.toNat y.toNat) ∧ w = w' := by
  have hb := frombits
  go_enter Tryd.func4, Tryd.ntmps4
  go_wp2
  go_ret
  exact ⟨rfl, rfl⟩
theorem same_any (x y u v : Nat) (w : World) : Calls Tryd.prog 9 #[.complex .f64 x y, .complex .f64 u v] w fun e w' => e = .returned (.bool (decide (x = u ∧ y = v))) ∧ w = w' := by
  by_cases h1 : x = u
  · subst h1
    by_cases h2 : y = v
    · subst h2
      rw [show decide (x = x ∧ y = y) = true by simp]
      go_enter Tryd.func9, Tryd.ntmps9
      go_wp2_with (go_at_call 17; refine (words35 _ _ _).mono ?_; rintro e w' ⟨rfl, rfl⟩)
      go_ret
      exact ⟨rfl, rfl⟩
    · have k1 : ((y : Int) == (v : Int)) = false := by rw [beq_eq_false_iff_ne]; omega
      rw [show decide (x = x ∧ y = v) = false by simp [h2]]
      go_enter Tryd.func9, Tryd.ntmps9
      go_wp2_with (go_at_call 17; refine (words35 _ _ _).mono ?_; rintro e w' ⟨rfl, rfl⟩)
      go_ret
      exact ⟨rfl, rfl⟩
  · have k1 : ((x : Int) == (u : Int)) = false := by rw [beq_eq_false_iff_ne]; omega
    rw [show decide (x = u ∧ y = v) = false by simp [h1]]
    go_enter Tryd.func9, Tryd.ntmps9
    go_wp2_with (go_at_call 17; refine (words35 _ _ _).mono ?_; rintro e w' ⟨rfl, rfl⟩)
    go_ret
    exact ⟨rfl, rfl⟩
def Dr (w w' : World) : Prop := ∃ n, w' = w.drewN n
theorem Dr.refl (w : World) : Dr w w := ⟨0, rfl⟩
theorem Dr.fopW {w v : World} (h : Dr w v) (op : BinOp) (x y : Nat) : Dr w (fopW op x y v) := by
  obtain ⟨n, rfl⟩ := h
  obtain ⟨m, hm⟩ := fopW_drewN op x y (w.drewN n)
  exact ⟨n + m, by rw [hm, World.drewN_drewN]⟩

theorem part_any (x : Nat) (w : World) :
    Calls Tryd.prog 24 #[.float .f64 x] w fun e w' => e = .returned (.float .f64 (cl x)) ∧ w = w' := by
  have hb := frombits
  by_cases h : (FloatKind.f64.format.order x x != some .eq) = true
  · have e : cl x = 9221120237041090561 := if_pos h
    rw [e]; clear e
    go_enter Tryd.func24, Tryd.ntmps24
    go_wp2
    go_ret
    exact ⟨rfl, rfl⟩
  · have e : cl x = x := if_neg h
    rw [e]; clear e
    have h : (FloatKind.f64.format.order x x != some .eq) = false := by simpa using h
    go_enter Tryd.func24, Tryd.ntmps24
    go_wp2
    go_ret
    exact ⟨rfl, rfl⟩
theorem made_any (x y : Nat) (w : World) :
    Calls Tryd.prog 22 #[.float .f64 x, .float .f64 y] w fun e w' => e = .returned (.complex .f64 (cl x) (cl y)) ∧ w = w' := by
  go_enter Tryd.func22, Tryd.ntmps22
  go_wp2_with (go_at_call 24; refine (part_any _ _).mono ?_; rintro e w' ⟨rfl, rfl⟩)
  go_ret
  exact ⟨rfl, rfl⟩

theorem mul_any (p q r s : Nat) (w : World) :
    Calls Tryd.prog 19 #[.complex .f64 p q, .complex .f64 r s] w fun e w' =>
      e = .returned (.complex .f64 (res (opq .sub (floatBits .mul .f64 p r) (floatBits .mul .f64 q s))) (res (opq .add (floatBits .mul .f64 p s) (floatBits .mul .f64 q r)))) ∧ ∃ n, w' = w.drewN n := by
  have ha := run_fop (P := Tryd.prog) .add (.inl rfl) 31
  have hs := run_fop (P := Tryd.prog) .sub (.inr (.inl rfl)) 31
  have hm := run_fop (P := Tryd.prog) .mul (.inr (.inr rfl)) 31
  go_enter Tryd.func19, Tryd.ntmps19
  go_wp2_with (go_at_call 22; refine (made_any _ _ _).mono ?_; rintro e w' ⟨rfl, rfl⟩)
  go_ret
  rw [cl_fop2 _ _ _ (.inr (.inl rfl)), cl_fop2 _ _ _ (.inl rfl)]
  refine ⟨rfl, ?_⟩
  show Dr w _
  repeat (first | exact Dr.refl _ | apply Dr.fopW)

theorem awake_any (w : World) : Calls Tryd.prog 10 #[] w fun e w' => e = .returned (.bool true) ∧ ∃ n, w' = w.drewN n := by
  go_enter Tryd.func10, Tryd.ntmps10
  go_wp2_with fail
  refine (mul_any _ _ _ _ _).mono ?_
  rintro e w' ⟨rfl, n, rfl⟩
  have h1 : (FloatKind.f64.format.order (res (opq .sub (floatBits .mul .f64 4607182418800017408 4613937818241073152) (floatBits .mul .f64 4611686018427387904 4616189618054758400))) 13840687554816376832 == some Ordering.eq) = true := by decide +kernel
  have h2 : (FloatKind.f64.format.order (res (opq .add (floatBits .mul .f64 4607182418800017408 4616189618054758400) (floatBits .mul .f64 4611686018427387904 4613937818241073152))) 4621819117588971520 == some Ordering.eq) = true := by decide +kernel
  go_wp2
  go_ret
  exact ⟨rfl, n, rfl⟩
end Go.Proofs.YtogejpepaggagaaDoor.Vb
