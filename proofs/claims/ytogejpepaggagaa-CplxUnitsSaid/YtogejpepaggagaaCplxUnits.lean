/-
  Proved: for every input the call of CplxUnits returns true and each argument reads as before. No condition.
-/
import Derived.Test.YtogejpepaggagaaRows
import Derived.WalkKit
import Derived.ProofKit
import Derived.OpenShut
import Derived.Test.YtogejpepaggagaaPowW
namespace Go.Proofs.Ytogejpepaggagaa.cplxUnits
open Go.ChangeShapes Go.WideShapes Go.ChangeAt Go.RowKit
set_option linter.unusedVariables false

theorem own : ownKnob Try.prog.godebug = none := by kernel_rfl

open Cx
theorem tmodh (x : Int) : -99999 ≤ x.tmod 100000 ∧ x.tmod 100000 ≤ 99999 := by
  have h1 := Int.tmod_lt_of_pos x (show (0 : Int) < 100000 by omega)
  have h2 := Int.lt_tmod_of_pos x (show (0 : Int) < 100000 by omega)
  omega
theorem sq_bd (x : Int) (h1 : -99999 ≤ x) (h2 : x ≤ 99999) : 0 ≤ x * x ∧ x * x ≤ 9999800001 := by
  have h : x.natAbs ≤ 99999 := by omega
  have := Nat.mul_le_mul h h
  have e : x * x = ((x.natAbs * x.natAbs : Nat) : Int) := by rw [Int.natCast_mul, Int.natAbs_mul_self']
  omega
theorem one_is : Is 4607182418800017408 1 := by
  have h : (4607182418800017408 : Nat) = floatOfInt .f64 1 := by decide +kernel
  rw [h]; exact floatOfInt_is 1 (by decide)
theorem zero_is : Is 0 0 := by
  have h : (0 : Nat) = floatOfInt .f64 0 := by decide +kernel
  have := floatOfInt_is 0 (by decide)
  rwa [← h] at this
theorem bd (x : Int) (h1 : -99999 ≤ x) (h2 : x ≤ 99999) : x.natAbs ≤ 67108863 := by omega
theorem bd' (x : Int) (h1 : -99999 ≤ x) (h2 : x ≤ 99999) : x.natAbs ≤ 4503599627370495 := by omega
theorem of_is (x : Int) (h1 : -99999 ≤ x) (h2 : x ≤ 99999) : Is (floatOfInt .f64 x) x := floatOfInt_is x (by omega)
theorem floatOfInt_lt (x : Int) : floatOfInt .f64 x < 18446744073709551616 := by
  show Ieee.double.write (.number (decide (x < 0)) x.natAbs 0) < _
  exact write_lt64 _
theorem u1 (x y : Int) : x * 1 - y * 0 = x := by omega
theorem u2 (x y : Int) : x * 0 + y * 1 = y := by omega
theorem u3 (x y : Int) : 0 * x - 1 * y = -y := by omega
theorem u4 (x y : Int) : 0 * y + 1 * x = x := by omega
theorem u5 (x : Int) : x + 0 = x := by omega
theorem u6 (x y : Int) : x * x - y * (-y) = x * x + y * y := by rw [Int.mul_neg]; omega
theorem u7 (x y : Int) : x * (-y) + y * x = 0 := by rw [Int.mul_neg, Int.mul_comm y x]; omega
theorem sum_is (x y : Int) (h1 : -99999 ≤ x) (h2 : x ≤ 99999) (h3 : -99999 ≤ y) (h4 : y ≤ 99999) : Is (floatOfInt .f64 (x * x + y * y)) (x * x + y * y) := by
  have := sq_bd x h1 h2
  have := sq_bd y h3 h4
  exact floatOfInt_is _ (by omega)

theorem walk (a0 : Int) (a1 : Int) (w0 : (Lit.int .i64 a0).wf = true) (w1 : (Lit.int .i64 a1).wf = true) (w : World) :
    Calls Try.prog 7 #[.int .i64 a0, .int .i64 a1] w fun e w' => e = .returned (.bool true) ∧ Grown w w' := by
  go_enter Try.func7, Try.ntmps7
  go_wp2_with fail
  obtain ⟨bx1, bx2⟩ := tmodh a0
  obtain ⟨by1, by2⟩ := tmodh a1
  generalize a0.tmod 100000 = x at *
  generalize a1.tmod 100000 = y at *
  have hx := of_is x bx1 bx2
  have hy := of_is y by1 by2
  have hny := of_is (-y) (by omega) (by omega)
  obtain ⟨sx1, sx2⟩ := sq_bd x bx1 bx2
  obtain ⟨sy1, sy2⟩ := sq_bd y by1 by2
  have hs := sum_is x y bx1 bx2 by1 by2
  have c1 := bd x bx1 bx2
  have c2 := bd y by1 by2
  have c3 := bd' x bx1 bx2
  have c4 := bd' y by1 by2
  refine (mul_whole _ _ _ _ _ _ _ _ hx hy one_is zero_is c1 c2 (by decide) (by decide) _).mono ?_
  rintro e w' ⟨x1, y1, rfl, hx1, hy1, n1, rfl⟩
  have e1 := eq_whole hx1 hx (u1 _ _)
  have e2 := eq_whole hy1 hy (u2 _ _)
  go_wp2_with fail
  refine (mul_whole _ _ _ _ _ _ _ _ zero_is one_is hx hy (by decide) (by decide) c1 c2 _).mono ?_
  rintro e w' ⟨x2, y2, rfl, hx2, hy2, n2, rfl⟩
  have e3 := eq_whole hx2 hny (u3 _ _)
  have e4 := eq_whole hy2 hx (u4 _ _)
  go_wp2_with fail
  refine (add_whole _ _ _ _ _ _ _ _ hx hy zero_is zero_is c3 c4 (by decide) (by decide) _).mono ?_
  rintro e w' ⟨x3, y3, rfl, hx3, hy3, n3, rfl⟩
  have e5 := eq_whole hx3 hx (u5 _)
  have e6 := eq_whole hy3 hy (u5 _)
  go_wp2_with fail
  refine (conj_any _ _ _).mono ?_
  rintro e w' ⟨rfl, rfl⟩
  go_wp2_with fail
  refine (mul_whole _ _ _ _ _ _ _ _ hx hy hx (flip_is (floatOfInt_lt _) hy) c1 c2 c1 (by rw [Int.natAbs_neg]; exact c2) _).mono ?_
  rintro e w' ⟨x4, y4, rfl, hx4, hy4, n4, rfl⟩
  have e7 := eq_whole hx4 hs (u6 _ _)
  have e8 := eq_whole hy4 zero_is (u7 _ _)
  go_wp2_with fail
  refine (awake_any _).mono ?_
  rintro e w' ⟨rfl, n8, rfl⟩
  go_wp2
  go_ret
  exact ⟨rfl, grown_drewN _⟩

set_option maxRecDepth 100000 in
theorem lifted (os : Os) (started : os.Started) (H : Type) (enc : TypeId × Value → H) :
    ReturnsInHanded {} Try.checked os 7 .any (Rows.cplxUnitsSpec.pre6 enc Try.prog Try.f7 Rows.cplxUnitsRow.domain false) (Rows.cplxUnitsSpec.post enc Try.prog Try.f7 false true false false) := by
  refine returnsInHanded_of_change (C := Try.checked) own started (by kernel_rfl) Try.func7
    (ChangeSpec.witness6 (enc := enc) (C := Try.checked) false ⟨#[], #[.int .i64 0, .int .i64 0], []⟩ 8 (by kernel_rfl) (by kernel_rfl) (by kernel_rfl) (by kernel_rfl)) ?_
  intro W base args ds gs before hval0 hW hcnd _
  have hval : ∀ (j : Nat) t v, Try.f7.params[j]? = some t → args[j]? = some v → Value.okWide Try.prog W .any base t v := hval0
  have hW' := hW
  obtain ⟨p, q, hA0, hV, rfl, hfz, hnd⟩ := hW
  have hA : DataW.TrodAll enc Try.prog W 0 (fun _ => true) true Try.f7.params.toList args.toList ds p := hA0
  rw [Try.params7] at hA hval
  obtain ⟨v0, vs0, d0, ds0, p0, q0, hargs, rfl, rfl, h0, r0⟩ := trodAll_cons hA
  obtain ⟨v1, vs1, d1, ds1, p1, q1, rfl, rfl, rfl, h1, r1⟩ := trodAll_cons r0
  obtain ⟨rfl, rfl, rfl⟩ := trodAll_nil r1
  obtain rfl : args = #[v0, v1] := by cases args; simp_all
  obtain ⟨rfl, rfl⟩ := trodVars_none hV
  obtain ⟨a0, rfl, rfl, rfl, w0⟩ := open_int Try.underlying3 (hval 0 3 v0 rfl rfl) h0
  obtain ⟨a1, rfl, rfl, rfl, w1⟩ := open_int Try.underlying3 (hval 1 3 v1 rfl rfl) h1
  clear hA0 hval0
  simp only [List.append_nil] at hW'
  refine (walk a0 a1 w0 w1 W).mono fun e W' ⟨he, hg⟩ => ?_
  subst he
  exact ⟨_, rfl, post_of_same (pa := []) (pv := []) hW' (fun _ _ _ => (trodAll_cons_mk (shut_bool Try.underlying4 _) trodAll_mk0)) (fun sp _ => (trodAll_cons_mk (shut_int Try.underlying3 w0) (trodAll_cons_mk (shut_int Try.underlying3 w1) trodAll_mk0))) (fun _ _ => rfl) rfl
    (hg.frame _) hg.2.1 (ok_one (by kernel_rfl) rfl (okWide_bool_mk Try.underlying4 _))⟩

theorem over : Rows.cplxUnitsRow.holds Try.pinned (OpenSpec.ofChange Rows.cplxUnitsSpec) :=
  OpenClaim.holds_of_wide 7 Try.f7 rfl rfl rfl rfl rfl rfl rfl ⟨rfl, rfl, rfl, rfl, rfl⟩ rfl rfl rfl rfl rfl (by kernel_rfl) Try.func7 (by kernel_rfl)
    (of_decide_eq_true (by kernel_rfl)) (by unfold Func.isWrapper; first | (rw [if_pos (by decide +kernel)]; kernel_rfl) | (rw [if_neg (by decide +kernel)]; exact ⟨rfl, rfl⟩))
    (fun os started H enc _ => lifted os started H enc)

theorem proved : Rows.CplxUnitsSaid :=
  over
#print axioms proved
end Go.Proofs.Ytogejpepaggagaa.cplxUnits
