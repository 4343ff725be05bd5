/-
  Proved: for every six ints the call of CplxRings returns true and each argument reads as before. No condition.
-/
import Derived.Test.YtogejpepaggagaaRows
import Derived.WalkKit
import Derived.ProofKit
import Derived.OpenShut
import Derived.Test.YtogejpepaggagaaW
namespace Go.Proofs.Ytogejpepaggagaa.cplxRings
open Go.ChangeShapes Go.WideShapes Go.ChangeAt Go.RowKit
set_option linter.unusedVariables false

theorem own : ownKnob Try.prog.godebug = none := by kernel_rfl

open Cx
theorem tmod_bd (x : Int) : (x.tmod 1000).natAbs ≤ 999 := by
  have h1 := Int.tmod_lt_of_pos x (show (0 : Int) < 1000 by omega)
  have h2 : -1000 < x.tmod 1000 := by
    have := Int.lt_tmod_of_pos x (show (0 : Int) < 1000 by omega)
    omega
  omega
theorem n_any (x y : Int) (w : World) :
    Calls Try.prog 13 #[.int .i64 x, .int .i64 y] w fun e w' => ∃ p q, e = .returned (.complex .f64 p q) ∧ Is p (x.tmod 1000) ∧ Is q (y.tmod 1000) ∧ w = w' := by
  go_enter Try.func13, Try.ntmps13
  go_wp2
  go_ret
  have hx := tmod_bd x
  have hy := tmod_bd y
  exact ⟨_, _, rfl, floatOfInt_is _ (by omega), floatOfInt_is _ (by omega), rfl⟩
def B (n : Nat) (x : Int) : Prop := x.natAbs ≤ n
theorem B.add {m n : Nat} {x y : Int} (hx : B m x) (hy : B n y) : B (m + n) (x + y) := by unfold B at *; omega
theorem B.le {m n : Nat} {x : Int} (hx : B m x) (h : m ≤ n) : x.natAbs ≤ n := Nat.le_trans hx h
theorem B.re {m n : Nat} {a b c d : Int} (ha : B m a) (hb : B m b) (hc : B n c) (hd : B n d) : B (m * n + m * n) (a * c - b * d) := by
  have h1 := abs_mul ha hc
  have h2 := abs_mul hb hd
  unfold B; omega
theorem B.im {m n : Nat} {a b c d : Int} (ha : B m a) (hb : B m b) (hc : B n c) (hd : B n d) : B (m * n + m * n) (a * d + b * c) := by
  have h1 := abs_mul ha hd
  have h2 := abs_mul hb hc
  unfold B; omega
theorem r1 (a c f : Int) : a + c + f = a + (c + f) := by omega
theorem r2 (a b c d f g : Int) : (a * c - b * d) * f - (a * d + b * c) * g = a * (c * f - d * g) - b * (c * g + d * f) := by grind
theorem r3 (a b c d f g : Int) : (a * c - b * d) * g + (a * d + b * c) * f = a * (c * g + d * f) + b * (c * f - d * g) := by grind
theorem r4 (a b c d f g : Int) : a * (c + f) - b * (d + g) = (a * c - b * d) + (a * f - b * g) := by grind
theorem r5 (a b c d f g : Int) : a * (d + g) + b * (c + f) = (a * d + b * c) + (a * g + b * f) := by grind

theorem walk (a0 : Int) (a1 : Int) (a2 : Int) (a3 : Int) (a4 : Int) (a5 : Int) (w0 : (Lit.int .i64 a0).wf = true) (w1 : (Lit.int .i64 a1).wf = true) (w2 : (Lit.int .i64 a2).wf = true) (w3 : (Lit.int .i64 a3).wf = true) (w4 : (Lit.int .i64 a4).wf = true) (w5 : (Lit.int .i64 a5).wf = true) (w : World) :
    Calls Try.prog 3 #[.int .i64 a0, .int .i64 a1, .int .i64 a2, .int .i64 a3, .int .i64 a4, .int .i64 a5] w fun e w' => e = .returned (.bool true) ∧ Grown w w' := by
  go_enter Try.func3, Try.ntmps3
  go_wp2_with fail
  refine (n_any _ _ _).mono ?_
  rintro e w' ⟨p1, q1, rfl, hp1, hq1, rfl⟩
  go_wp2_with fail
  refine (n_any _ _ _).mono ?_
  rintro e w' ⟨p2, q2, rfl, hp2, hq2, rfl⟩
  go_wp2_with fail
  refine (n_any _ _ _).mono ?_
  rintro e w' ⟨p3, q3, rfl, hp3, hq3, rfl⟩
  have b0 : B 999 _ := tmod_bd a0
  have b1 : B 999 _ := tmod_bd a1
  have b2 : B 999 _ := tmod_bd a2
  have b3 : B 999 _ := tmod_bd a3
  have b4 : B 999 _ := tmod_bd a4
  have b5 : B 999 _ := tmod_bd a5
  generalize a0.tmod 1000 = a at *
  generalize a1.tmod 1000 = b at *
  generalize a2.tmod 1000 = c at *
  generalize a3.tmod 1000 = d at *
  generalize a4.tmod 1000 = f at *
  generalize a5.tmod 1000 = g at *
  go_wp2_with fail
  refine (add_whole _ _ _ _ _ _ _ _ hp1 hq1 hp2 hq2 (b0.le (by decide)) (b1.le (by decide)) (b2.le (by decide)) (b3.le (by decide)) _).mono ?_
  rintro e w' ⟨x1, y1, rfl, hx1, hy1, n1, rfl⟩
  go_wp2_with fail
  refine (add_whole _ _ _ _ _ _ _ _ hx1 hy1 hp3 hq3 ((B.add b0 b2).le (by decide)) ((B.add b1 b3).le (by decide)) (b4.le (by decide)) (b5.le (by decide)) _).mono ?_
  rintro e w' ⟨x2, y2, rfl, hx2, hy2, n2, rfl⟩
  go_wp2_with fail
  refine (add_whole _ _ _ _ _ _ _ _ hp2 hq2 hp3 hq3 (b2.le (by decide)) (b3.le (by decide)) (b4.le (by decide)) (b5.le (by decide)) _).mono ?_
  rintro e w' ⟨x3, y3, rfl, hx3, hy3, n3, rfl⟩
  go_wp2_with fail
  refine (add_whole _ _ _ _ _ _ _ _ hp1 hq1 hx3 hy3 (b0.le (by decide)) (b1.le (by decide)) ((B.add b2 b4).le (by decide)) ((B.add b3 b5).le (by decide)) _).mono ?_
  rintro e w' ⟨x4, y4, rfl, hx4, hy4, n4, rfl⟩
  have e1 := eq_whole hx2 hx4 (r1 _ _ _)
  have e2 := eq_whole hy2 hy4 (r1 _ _ _)
  go_wp2_with fail
  refine (mul_whole _ _ _ _ _ _ _ _ hp1 hq1 hp2 hq2 (b0.le (by decide)) (b1.le (by decide)) (b2.le (by decide)) (b3.le (by decide)) _).mono ?_
  rintro e w' ⟨x5, y5, rfl, hx5, hy5, n5, rfl⟩
  go_wp2_with fail
  refine (mul_whole _ _ _ _ _ _ _ _ hx5 hy5 hp3 hq3 ((B.re b0 b1 b2 b3).le (by decide)) ((B.im b0 b1 b2 b3).le (by decide)) (b4.le (by decide)) (b5.le (by decide)) _).mono ?_
  rintro e w' ⟨x6, y6, rfl, hx6, hy6, n6, rfl⟩
  go_wp2_with fail
  refine (mul_whole _ _ _ _ _ _ _ _ hp2 hq2 hp3 hq3 (b2.le (by decide)) (b3.le (by decide)) (b4.le (by decide)) (b5.le (by decide)) _).mono ?_
  rintro e w' ⟨x7, y7, rfl, hx7, hy7, n7, rfl⟩
  go_wp2_with fail
  refine (mul_whole _ _ _ _ _ _ _ _ hp1 hq1 hx7 hy7 (b0.le (by decide)) (b1.le (by decide)) ((B.re b2 b3 b4 b5).le (by decide)) ((B.im b2 b3 b4 b5).le (by decide)) _).mono ?_
  rintro e w' ⟨x8, y8, rfl, hx8, hy8, n8, rfl⟩
  have e3 := eq_whole hx6 hx8 (r2 _ _ _ _ _ _)
  have e4 := eq_whole hy6 hy8 (r3 _ _ _ _ _ _)
  go_wp2_with fail
  refine (add_whole _ _ _ _ _ _ _ _ hp2 hq2 hp3 hq3 (b2.le (by decide)) (b3.le (by decide)) (b4.le (by decide)) (b5.le (by decide)) _).mono ?_
  rintro e w' ⟨x9, y9, rfl, hx9, hy9, n9, rfl⟩
  go_wp2_with fail
  refine (mul_whole _ _ _ _ _ _ _ _ hp1 hq1 hx9 hy9 (b0.le (by decide)) (b1.le (by decide)) ((B.add b2 b4).le (by decide)) ((B.add b3 b5).le (by decide)) _).mono ?_
  rintro e w' ⟨x10, y10, rfl, hx10, hy10, n10, rfl⟩
  go_wp2_with fail
  refine (mul_whole _ _ _ _ _ _ _ _ hp1 hq1 hp2 hq2 (b0.le (by decide)) (b1.le (by decide)) (b2.le (by decide)) (b3.le (by decide)) _).mono ?_
  rintro e w' ⟨x11, y11, rfl, hx11, hy11, n11, rfl⟩
  go_wp2_with fail
  refine (mul_whole _ _ _ _ _ _ _ _ hp1 hq1 hp3 hq3 (b0.le (by decide)) (b1.le (by decide)) (b4.le (by decide)) (b5.le (by decide)) _).mono ?_
  rintro e w' ⟨x12, y12, rfl, hx12, hy12, n12, rfl⟩
  go_wp2_with fail
  refine (add_whole _ _ _ _ _ _ _ _ hx11 hy11 hx12 hy12 ((B.re b0 b1 b2 b3).le (by decide)) ((B.im b0 b1 b2 b3).le (by decide)) ((B.re b0 b1 b4 b5).le (by decide)) ((B.im b0 b1 b4 b5).le (by decide)) _).mono ?_
  rintro e w' ⟨x13, y13, rfl, hx13, hy13, n13, rfl⟩
  have e5 := eq_whole hx10 hx13 (r4 _ _ _ _ _ _)
  have e6 := eq_whole hy10 hy13 (r5 _ _ _ _ _ _)
  go_wp2_with fail
  refine (awake_any _).mono ?_
  rintro e w' ⟨rfl, n14, rfl⟩
  go_wp2
  go_ret
  exact ⟨rfl, grown_drewN _⟩

set_option maxRecDepth 100000 in
theorem lifted (os : Os) (started : os.Started) (H : Type) (enc : TypeId × Value → H) :
    ReturnsInHanded {} Try.checked os 3 .any (Rows.cplxRingsSpec.pre6 enc Try.prog Try.f3 Rows.cplxRingsRow.domain false) (Rows.cplxRingsSpec.post enc Try.prog Try.f3 false true false false) := by
  refine returnsInHanded_of_change (C := Try.checked) own started (by kernel_rfl) Try.func3
    (ChangeSpec.witness6 (enc := enc) (C := Try.checked) false ⟨#[], #[.int .i64 0, .int .i64 0, .int .i64 0, .int .i64 0, .int .i64 0, .int .i64 0], []⟩ 8 (by kernel_rfl) (by kernel_rfl) (by kernel_rfl) (by kernel_rfl)) ?_
  intro W base args ds gs before hval0 hW hcnd _
  have hval : ∀ (j : Nat) t v, Try.f3.params[j]? = some t → args[j]? = some v → Value.okWide Try.prog W .any base t v := hval0
  have hW' := hW
  obtain ⟨p, q, hA0, hV, rfl, hfz, hnd⟩ := hW
  have hA : DataW.TrodAll enc Try.prog W 0 (fun _ => true) true Try.f3.params.toList args.toList ds p := hA0
  rw [Try.params3] at hA hval
  obtain ⟨v0, vs0, d0, ds0, p0, q0, hargs, rfl, rfl, h0, r0⟩ := trodAll_cons hA
  obtain ⟨v1, vs1, d1, ds1, p1, q1, rfl, rfl, rfl, h1, r1⟩ := trodAll_cons r0
  obtain ⟨v2, vs2, d2, ds2, p2, q2, rfl, rfl, rfl, h2, r2⟩ := trodAll_cons r1
  obtain ⟨v3, vs3, d3, ds3, p3, q3, rfl, rfl, rfl, h3, r3⟩ := trodAll_cons r2
  obtain ⟨v4, vs4, d4, ds4, p4, q4, rfl, rfl, rfl, h4, r4⟩ := trodAll_cons r3
  obtain ⟨v5, vs5, d5, ds5, p5, q5, rfl, rfl, rfl, h5, r5⟩ := trodAll_cons r4
  obtain ⟨rfl, rfl, rfl⟩ := trodAll_nil r5
  obtain rfl : args = #[v0, v1, v2, v3, v4, v5] := by cases args; simp_all
  obtain ⟨rfl, rfl⟩ := trodVars_none hV
  obtain ⟨a0, rfl, rfl, rfl, w0⟩ := open_int Try.underlying3 (hval 0 3 v0 rfl rfl) h0
  obtain ⟨a1, rfl, rfl, rfl, w1⟩ := open_int Try.underlying3 (hval 1 3 v1 rfl rfl) h1
  obtain ⟨a2, rfl, rfl, rfl, w2⟩ := open_int Try.underlying3 (hval 2 3 v2 rfl rfl) h2
  obtain ⟨a3, rfl, rfl, rfl, w3⟩ := open_int Try.underlying3 (hval 3 3 v3 rfl rfl) h3
  obtain ⟨a4, rfl, rfl, rfl, w4⟩ := open_int Try.underlying3 (hval 4 3 v4 rfl rfl) h4
  obtain ⟨a5, rfl, rfl, rfl, w5⟩ := open_int Try.underlying3 (hval 5 3 v5 rfl rfl) h5
  clear hA0 hval0
  simp only [List.append_nil] at hW'
  refine (walk a0 a1 a2 a3 a4 a5 w0 w1 w2 w3 w4 w5 W).mono fun e W' ⟨he, hg⟩ => ?_
  subst he
  exact ⟨_, rfl, post_of_same (pa := []) (pv := []) hW' (fun _ _ _ => (trodAll_cons_mk (shut_bool Try.underlying4 _) trodAll_mk0)) (fun sp _ => (trodAll_cons_mk (shut_int Try.underlying3 w0) (trodAll_cons_mk (shut_int Try.underlying3 w1) (trodAll_cons_mk (shut_int Try.underlying3 w2) (trodAll_cons_mk (shut_int Try.underlying3 w3) (trodAll_cons_mk (shut_int Try.underlying3 w4) (trodAll_cons_mk (shut_int Try.underlying3 w5) trodAll_mk0))))))) (fun _ _ => rfl) rfl
    (hg.frame _) hg.2.1 (ok_one (by kernel_rfl) rfl (okWide_bool_mk Try.underlying4 _))⟩

theorem over : Rows.cplxRingsRow.holds Try.pinned (OpenSpec.ofChange Rows.cplxRingsSpec) :=
  OpenClaim.holds_of_wide 3 Try.f3 rfl rfl rfl rfl rfl rfl rfl ⟨rfl, rfl, rfl, rfl, rfl⟩ rfl rfl rfl rfl rfl (by kernel_rfl) Try.func3 (by kernel_rfl)
    (of_decide_eq_true (by kernel_rfl)) (by unfold Func.isWrapper; first | (rw [if_pos (by decide +kernel)]; kernel_rfl) | (rw [if_neg (by decide +kernel)]; exact ⟨rfl, rfl⟩))
    (fun os started H enc _ => lifted os started H enc)

theorem proved : Rows.CplxRingsSaid :=
  over
#print axioms proved
end Go.Proofs.Ytogejpepaggagaa.cplxRings
