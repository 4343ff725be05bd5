/-
  Proved: for every input the call of CplxWhole returns true and each argument reads as before. No condition.
-/
import Derived.Test.YtogejpepaggagaaRows
import Derived.WalkKit
import Derived.ProofKit
import Derived.OpenShut
import Derived.Test.YtogejpepaggagaaPowW
namespace Go.Proofs.Ytogejpepaggagaa.cplxWhole
open Go.ChangeShapes Go.WideShapes Go.ChangeAt Go.RowKit
set_option linter.unusedVariables false

theorem own : ownKnob Try.prog.godebug = none := by kernel_rfl

open Cx
theorem tmodk (x : Int) : -999 ≤ x.tmod 1000 ∧ x.tmod 1000 ≤ 999 := by
  have h1 := Int.tmod_lt_of_pos x (show (0 : Int) < 1000 by omega)
  have h2 := Int.lt_tmod_of_pos x (show (0 : Int) < 1000 by omega)
  omega
theorem pr_bd (x y : Int) (A B : Int) (hA : -A ≤ x ∧ x ≤ A) (hB : -B ≤ y ∧ y ≤ B) : -(A * B) ≤ x * y ∧ x * y ≤ A * B := by
  have h1 : x.natAbs ≤ A.toNat := by omega
  have h2 : y.natAbs ≤ B.toNat := by omega
  have := abs_mul h1 h2
  have e : ((A.toNat * B.toNat : Nat) : Int) = A * B := by rw [Int.natCast_mul, Int.toNat_of_nonneg (by omega), Int.toNat_of_nonneg (by omega)]
  omega
def Bds (x y z t : Int) : Prop :=
  (-998001 ≤ x * z ∧ x * z ≤ 998001) ∧ (-998001 ≤ y * t ∧ y * t ≤ 998001) ∧ (-998001 ≤ x * t ∧ x * t ≤ 998001) ∧ (-998001 ≤ y * z ∧ y * z ≤ 998001) ∧
  (-998001 ≤ x * x ∧ x * x ≤ 998001) ∧ (-998001 ≤ y * y ∧ y * y ≤ 998001) ∧ (-997002999 ≤ x * x * x ∧ x * x * x ≤ 997002999) ∧ (-997002999 ≤ y * y * y ∧ y * y * y ≤ 997002999) ∧
  (-2994003 ≤ 3 * x * y ∧ 3 * x * y ≤ 2994003) ∧ (-2994003 ≤ 3 * x * x ∧ 3 * x * x ≤ 2994003) ∧ (-2991008997 ≤ 3 * x * y * y ∧ 3 * x * y * y ≤ 2991008997) ∧ (-2991008997 ≤ 3 * x * x * y ∧ 3 * x * x * y ≤ 2991008997)
theorem bds (x y z t : Int) (hx : -999 ≤ x ∧ x ≤ 999) (hy : -999 ≤ y ∧ y ≤ 999) (hz : -999 ≤ z ∧ z ≤ 999) (ht : -999 ≤ t ∧ t ≤ 999) : Bds x y z t := by
  have h3 : -2997 ≤ 3 * x ∧ 3 * x ≤ 2997 := by omega
  have hxx := pr_bd x x 999 999 hx hx
  have hyy := pr_bd y y 999 999 hy hy
  have h3y := pr_bd (3 * x) y 2997 999 h3 hy
  have h3x := pr_bd (3 * x) x 2997 999 h3 hx
  exact ⟨pr_bd x z 999 999 hx hz, pr_bd y t 999 999 hy ht, pr_bd x t 999 999 hx ht, pr_bd y z 999 999 hy hz, hxx, hyy, pr_bd (x * x) x (999 * 999) 999 hxx hx,
    pr_bd (y * y) y (999 * 999) 999 hyy hy, h3y, h3x, pr_bd (3 * x * y) y (2997 * 999) 999 h3y hy, pr_bd (3 * x * x) y (2997 * 999) 999 h3x hy⟩
def Iss (x y z t : Int) : Prop := Is (floatOfInt .f64 x) x ∧ Is (floatOfInt .f64 y) y ∧ Is (floatOfInt .f64 z) z ∧ Is (floatOfInt .f64 t) t ∧
  Is (floatOfInt .f64 (x + z)) (x + z) ∧ Is (floatOfInt .f64 (y + t)) (y + t) ∧ Is (floatOfInt .f64 (x * z - y * t)) (x * z - y * t) ∧ Is (floatOfInt .f64 (x * t + y * z)) (x * t + y * z) ∧
  Is (floatOfInt .f64 (x * x * x - 3 * x * y * y)) (x * x * x - 3 * x * y * y) ∧ Is (floatOfInt .f64 (3 * x * x * y - y * y * y)) (3 * x * x * y - y * y * y)
theorem iss (x y z t : Int) (hx : -999 ≤ x ∧ x ≤ 999) (hy : -999 ≤ y ∧ y ≤ 999) (hz : -999 ≤ z ∧ z ≤ 999) (ht : -999 ≤ t ∧ t ≤ 999) : Iss x y z t := by
  obtain ⟨h1, h2, h3, h4, h5, h6, h7, h8, h9, h10, h11, h12⟩ := bds x y z t hx hy hz ht
  exact ⟨floatOfInt_is _ (by omega), floatOfInt_is _ (by omega), floatOfInt_is _ (by omega), floatOfInt_is _ (by omega), floatOfInt_is _ (by omega), floatOfInt_is _ (by omega),
    floatOfInt_is _ (by omega), floatOfInt_is _ (by omega), floatOfInt_is _ (by omega), floatOfInt_is _ (by omega)⟩
theorem bdC (x y : Int) (hx : -999 ≤ x ∧ x ≤ 999) (hy : -999 ≤ y ∧ y ≤ 999) : BC 999 (x, y) := ⟨by show x.natAbs ≤ 999; omega, by show y.natAbs ≤ 999; omega⟩
theorem b4 (x : Int) (hx : -999 ≤ x ∧ x ≤ 999) : x.natAbs ≤ 67108863 ∧ x.natAbs ≤ 4503599627370495 := by omega
/-- The third power. -/
theorem cube_any (p q : Nat) (x y : Int) (hp : Is p x) (hq : Is q y) (hb : BC 999 (x, y)) (w : World) :
    Calls Try.prog 27 #[.complex .f64 p q, .int .i64 3] w fun e w' => ∃ u v, e = .returned (.complex .f64 u v) ∧ Is u (x * x * x - 3 * x * y * y) ∧ Is v (3 * x * x * y - y * y * y) ∧ ∃ k, w' = w.drewN k := by
  refine (power_any p q 3 3 w (by omega) (.inl ⟨by omega, rfl⟩)).mono fun e w' ⟨he, hw⟩ => ⟨_, _, he, ?_, ?_, hw⟩
  · have := (power_is (a := (p, q)) (z := (x, y)) ⟨hp, hq⟩ hb 3 (by omega) (by decide) (by decide) (by decide)).1
    have e : (zpow (x, y) 3).1 = x * x * x - 3 * x * y * y := by simp only [zpow, zmul]; grind
    rw [e] at this; exact this
  · have := (power_is (a := (p, q)) (z := (x, y)) ⟨hp, hq⟩ hb 3 (by omega) (by decide) (by decide) (by decide)).2
    have e : (zpow (x, y) 3).2 = 3 * x * x * y - y * y * y := by simp only [zpow, zmul]; grind
    rw [e] at this; exact this
theorem one_is : Is 4607182418800017408 1 := by
  have h : (4607182418800017408 : Nat) = floatOfInt .f64 1 := by decide +kernel
  rw [h]; exact floatOfInt_is 1 (by decide)
theorem zero_is : Is 0 0 := by
  have h : (0 : Nat) = floatOfInt .f64 0 := by decide +kernel
  have := floatOfInt_is 0 (by decide)
  rwa [← h] at this
set_option maxHeartbeats 1000000 in

theorem walk (a0 : Int) (a1 : Int) (a2 : Int) (a3 : Int) (w0 : (Lit.int .i64 a0).wf = true) (w1 : (Lit.int .i64 a1).wf = true) (w2 : (Lit.int .i64 a2).wf = true) (w3 : (Lit.int .i64 a3).wf = true) (w : World) :
    Calls Try.prog 11 #[.int .i64 a0, .int .i64 a1, .int .i64 a2, .int .i64 a3] w fun e w' => e = .returned (.bool true) ∧ Grown w w' := by
  have Hx := tmodk a0
  have Hy := tmodk a1
  have Hz := tmodk a2
  have Ht := tmodk a3
  have HI := iss _ _ _ _ Hx Hy Hz Ht
  have HB := bds _ _ _ _ Hx Hy Hz Ht
  have HC := bdC _ _ Hx Hy
  obtain ⟨x1, x2⟩ := b4 _ Hx
  obtain ⟨y1, y2⟩ := b4 _ Hy
  obtain ⟨z1, z2⟩ := b4 _ Hz
  obtain ⟨t1, t2⟩ := b4 _ Ht
  go_enter Try.func11, Try.ntmps11
  go_wp2_with fail
  generalize a0.tmod 1000 = x at *
  generalize a1.tmod 1000 = y at *
  generalize a2.tmod 1000 = z at *
  generalize a3.tmod 1000 = t at *
  obtain ⟨bx1, bx2⟩ := Hx
  obtain ⟨by1, by2⟩ := Hy
  obtain ⟨bz1, bz2⟩ := Hz
  obtain ⟨bt1, bt2⟩ := Ht
  obtain ⟨⟨g1, g2⟩, ⟨g3, g4⟩, ⟨g5, g6⟩, ⟨g7, g8⟩, ⟨g9, g10⟩, ⟨g11, g12⟩, ⟨g13, g14⟩, ⟨g15, g16⟩, ⟨g17, g18⟩, ⟨g19, g20⟩, ⟨g21, g22⟩, ⟨g23, g24⟩⟩ := HB
  obtain ⟨i1, i2, i3, i4, i5, i6, i7, i8, i9, i10⟩ := HI
  refine (mul_whole _ _ _ _ _ _ _ _ i1 i2 i3 i4 x1 y1 z1 t1 _).mono ?_
  rintro e w' ⟨u1, v1, rfl, hu1, hv1, n1, rfl⟩
  have e3 := eq_whole hu1 i7 rfl
  have e4 := eq_whole hv1 i8 rfl
  go_wp2_with fail
  refine (add_whole _ _ _ _ _ _ _ _ i1 i2 i3 i4 x2 y2 z2 t2 _).mono ?_
  rintro e w' ⟨u2, v2, rfl, hu2, hv2, n2, rfl⟩
  have e1 := eq_whole hu2 i5 rfl
  have e2 := eq_whole hv2 i6 rfl
  go_wp2_with fail
  refine (cube_any _ _ _ _ i1 i2 HC _).mono ?_
  rintro e w' ⟨u3, v3, rfl, hu3, hv3, n3, rfl⟩
  have e5 := eq_whole hu3 i9 rfl
  have e6 := eq_whole hv3 i10 rfl
  go_wp2_with fail
  refine (power_low _ _ 0 _ (by decide)).mono ?_
  rintro e w' ⟨rfl, rfl⟩
  have e7 := eq_whole one_is one_is rfl
  have e8 := eq_whole zero_is zero_is rfl
  go_wp2_with fail
  refine (awake_any _).mono ?_
  rintro e w' ⟨rfl, n8, rfl⟩
  go_wp2
  go_ret
  exact ⟨rfl, grown_drewN _⟩

set_option maxRecDepth 100000 in
theorem lifted (os : Os) (started : os.Started) (H : Type) (enc : TypeId × Value → H) :
    ReturnsInHanded {} Try.checked os 11 .any (Rows.cplxWholeSpec.pre6 enc Try.prog Try.f11 Rows.cplxWholeRow.domain false) (Rows.cplxWholeSpec.post enc Try.prog Try.f11 false true false false) := by
  refine returnsInHanded_of_change (C := Try.checked) own started (by kernel_rfl) Try.func11
    (ChangeSpec.witness6 (enc := enc) (C := Try.checked) false ⟨#[], #[.int .i64 0, .int .i64 0, .int .i64 0, .int .i64 0], []⟩ 8 (by kernel_rfl) (by kernel_rfl) (by kernel_rfl) (by kernel_rfl)) ?_
  intro W base args ds gs before hval0 hW hcnd _
  have hval : ∀ (j : Nat) t v, Try.f11.params[j]? = some t → args[j]? = some v → Value.okWide Try.prog W .any base t v := hval0
  have hW' := hW
  obtain ⟨p, q, hA0, hV, rfl, hfz, hnd⟩ := hW
  have hA : DataW.TrodAll enc Try.prog W 0 (fun _ => true) true Try.f11.params.toList args.toList ds p := hA0
  rw [Try.params11] at hA hval
  obtain ⟨v0, vs0, d0, ds0, p0, q0, hargs, rfl, rfl, h0, r0⟩ := trodAll_cons hA
  obtain ⟨v1, vs1, d1, ds1, p1, q1, rfl, rfl, rfl, h1, r1⟩ := trodAll_cons r0
  obtain ⟨v2, vs2, d2, ds2, p2, q2, rfl, rfl, rfl, h2, r2⟩ := trodAll_cons r1
  obtain ⟨v3, vs3, d3, ds3, p3, q3, rfl, rfl, rfl, h3, r3⟩ := trodAll_cons r2
  obtain ⟨rfl, rfl, rfl⟩ := trodAll_nil r3
  obtain rfl : args = #[v0, v1, v2, v3] := by cases args; simp_all
  obtain ⟨rfl, rfl⟩ := trodVars_none hV
  obtain ⟨a0, rfl, rfl, rfl, w0⟩ := open_int Try.underlying3 (hval 0 3 v0 rfl rfl) h0
  obtain ⟨a1, rfl, rfl, rfl, w1⟩ := open_int Try.underlying3 (hval 1 3 v1 rfl rfl) h1
  obtain ⟨a2, rfl, rfl, rfl, w2⟩ := open_int Try.underlying3 (hval 2 3 v2 rfl rfl) h2
  obtain ⟨a3, rfl, rfl, rfl, w3⟩ := open_int Try.underlying3 (hval 3 3 v3 rfl rfl) h3
  clear hA0 hval0
  simp only [List.append_nil] at hW'
  refine (walk a0 a1 a2 a3 w0 w1 w2 w3 W).mono fun e W' ⟨he, hg⟩ => ?_
  subst he
  exact ⟨_, rfl, post_of_same (pa := []) (pv := []) hW' (fun _ _ _ => (trodAll_cons_mk (shut_bool Try.underlying4 _) trodAll_mk0)) (fun sp _ => (trodAll_cons_mk (shut_int Try.underlying3 w0) (trodAll_cons_mk (shut_int Try.underlying3 w1) (trodAll_cons_mk (shut_int Try.underlying3 w2) (trodAll_cons_mk (shut_int Try.underlying3 w3) trodAll_mk0))))) (fun _ _ => rfl) rfl
    (hg.frame _) hg.2.1 (ok_one (by kernel_rfl) rfl (okWide_bool_mk Try.underlying4 _))⟩

theorem over : Rows.cplxWholeRow.holds Try.pinned (OpenSpec.ofChange Rows.cplxWholeSpec) :=
  OpenClaim.holds_of_wide 11 Try.f11 rfl rfl rfl rfl rfl rfl rfl ⟨rfl, rfl, rfl, rfl, rfl⟩ rfl rfl rfl rfl rfl (by kernel_rfl) Try.func11 (by kernel_rfl)
    (of_decide_eq_true (by kernel_rfl)) (by unfold Func.isWrapper; first | (rw [if_pos (by decide +kernel)]; kernel_rfl) | (rw [if_neg (by decide +kernel)]; exact ⟨rfl, rfl⟩))
    (fun os started H enc _ => lifted os started H enc)

theorem proved : Rows.CplxWholeSaid :=
  over
#print axioms proved
end Go.Proofs.Ytogejpepaggagaa.cplxWhole
