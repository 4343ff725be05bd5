/-
  Proved: for every input the call of CplxPowersAdd returns true and each argument reads as before. No condition.
-/
import Derived.Test.YtogejpepaggagaaRows
import Derived.WalkKit
import Derived.ProofKit
import Derived.OpenShut
import Derived.Test.YtogejpepaggagaaPowW
namespace Go.Proofs.Ytogejpepaggagaa.cplxPowersAdd
open Go.ChangeShapes Go.WideShapes Go.ChangeAt Go.RowKit
set_option linter.unusedVariables false

theorem own : ownKnob Try.prog.godebug = none := by kernel_rfl

open Cx
theorem tmod6 (x : Int) : (x.tmod 6).natAbs ≤ 5 := by
  have h1 := Int.tmod_lt_of_pos x (show (0 : Int) < 6 by omega)
  have h2 := Int.lt_tmod_of_pos x (show (0 : Int) < 6 by omega)
  omega
theorem isC_of {x y : Int} (hx : x.natAbs ≤ 5) (hy : y.natAbs ≤ 5) : IsC (floatOfInt .f64 x, floatOfInt .f64 y) (x, y) := ⟨floatOfInt_is _ (by omega), floatOfInt_is _ (by omega)⟩
theorem one_is : IsC (4607182418800017408, 0) (1, 0) :=
  ⟨by have h : (4607182418800017408 : Nat) = floatOfInt .f64 1 := by decide +kernel
      have := floatOfInt_is 1 (by decide); rwa [← h] at this,
   by have h : (0 : Nat) = floatOfInt .f64 0 := by decide +kernel
      have := floatOfInt_is 0 (by decide); rwa [← h] at this⟩
/-- A power up to the eighth. -/
theorem power_whole (p q : Nat) (z : Int × Int) (h : IsC (p, q) z) (hz : BC 5 z) (n : Nat) (hn : n ≤ 8) (w : World) :
    Calls Try.prog 27 #[.complex .f64 p q, .int .i64 (n : Int)] w fun e w' => ∃ x y, e = .returned (.complex .f64 x y) ∧ IsC (x, y) (zpow z n) ∧ ∃ k, w' = w.drewN k := by
  by_cases h0 : n = 0
  · subst h0
    exact (power_low p q 0 w (by omega)).mono fun e w' ⟨he, hw⟩ => ⟨_, _, he, one_is, 0, hw.symm⟩
  · refine (power_any p q n n w (by omega) (.inl ⟨by omega, rfl⟩)).mono fun e w' ⟨he, hw⟩ => ⟨_, _, he, ?_, hw⟩
    rw [Int.toNat_natCast]
    refine power_is h hz n (by omega) ?_ (by omega) (by omega)
    exact Nat.le_trans (Nat.pow_le_pow_right (show 0 < 2 * 5 by omega) (show n - 1 ≤ 7 by omega)) (by decide)
theorem mulC (x y : Nat × Nat) (a b : Int × Int) (hx : IsC x a) (hy : IsC y b) (ha : BC 67108863 a) (hb : BC 67108863 b) (w : World) :
    Calls Try.prog 15 #[.complex .f64 x.1 x.2, .complex .f64 y.1 y.2] w fun e w' => ∃ u v, e = .returned (.complex .f64 u v) ∧ IsC (u, v) (zmul a b) ∧ ∃ k, w' = w.drewN k :=
  (mul_any x.1 x.2 y.1 y.2 w).mono fun _ _ ⟨he, hw⟩ => ⟨_, _, he, cmul_is hx hy ha hb, hw⟩
theorem eqC {x y : Nat × Nat} {a b : Int × Int} (hx : IsC x a) (hy : IsC y b) (h : a = b) : (FloatKind.f64.format.order x.1 y.1 == some Ordering.eq) = true ∧ (FloatKind.f64.format.order x.2 y.2 == some Ordering.eq) = true :=
  ⟨eq_whole hx.1 hy.1 (by rw [h]), eq_whole hx.2 hy.2 (by rw [h])⟩
theorem bd5 {z : Int × Int} (hz : BC 5 z) (n : Nat) (hn : n ≤ 4) : BC 67108863 (zpow z n) :=
  (zpow_bd hz n).le (Nat.le_trans (Nat.pow_le_pow_right (show 0 < 2 * 5 by omega) hn) (by decide))
theorem mod5 (m : Int) : ∃ k : Nat, k ≤ 4 ∧ wrap64 ((IntKind.u64.wrap m).tmod 5) = (k : Int) := by
  have h0 : 0 ≤ m % 18446744073709551616 := Int.emod_nonneg _ (by omega)
  rw [IntKind.wrap_u64, Int.tmod_eq_emod_of_nonneg h0]
  refine ⟨(m % 18446744073709551616 % 5).toNat, by omega, ?_⟩
  unfold wrap64
  omega
theorem add8 (a b : Nat) (ha : a ≤ 4) (hb : b ≤ 4) : wrap64 ((a : Int) + (b : Int)) = ((a + b : Nat) : Int) := by
  unfold wrap64
  omega

theorem walk (a0 : Int) (a1 : Int) (a2 : Int) (a3 : Int) (w0 : (Lit.int .i64 a0).wf = true) (w1 : (Lit.int .i64 a1).wf = true) (w2 : (Lit.int .i64 a2).wf = true) (w3 : (Lit.int .i64 a3).wf = true) (w : World) :
    Calls Try.prog 8 #[.int .i64 a0, .int .i64 a1, .int .i64 a2, .int .i64 a3] w fun e w' => e = .returned (.bool true) ∧ Grown w w' := by
  obtain ⟨m, hm, em⟩ := mod5 a2
  obtain ⟨n, hn, en⟩ := mod5 a3
  have es := add8 m n hm hn
  have bx := tmod6 a0
  have by' := tmod6 a1
  have hC := isC_of bx by'
  have hz : BC 5 (a0.tmod 6, a1.tmod 6) := ⟨bx, by'⟩
  have HM := Lib.hid em
  have HN := Lib.hid en
  have HS := Lib.hid es
  clear em en es bx by' w0 w1 w2 w3
  go_enter Try.func8, Try.ntmps8
  go_wp2_with fail
  rw [HM.out, HN.out, HS.out]
  generalize a0.tmod 6 = x at *
  generalize a1.tmod 6 = y at *
  refine (power_whole _ _ _ hC hz (m + n) (by omega) _).mono ?_
  rintro e w' ⟨x1, y1, rfl, h1, n1, rfl⟩
  go_wp2_with fail
  refine (power_whole _ _ _ hC hz m (by omega) _).mono ?_
  rintro e w' ⟨x2, y2, rfl, h2, n2, rfl⟩
  go_wp2_with fail
  refine (power_whole _ _ _ hC hz n (by omega) _).mono ?_
  rintro e w' ⟨x3, y3, rfl, h3, n3, rfl⟩
  go_wp2_with fail
  refine (mulC (x2, y2) (x3, y3) _ _ h2 h3 (bd5 hz m hm) (bd5 hz n hn) _).mono ?_
  rintro e w' ⟨x4, y4, rfl, h4, n4, rfl⟩
  obtain ⟨e1, e2⟩ := eqC h1 h4 (zpow_add _ _ _)
  dsimp only at e1 e2
  go_wp2_with fail
  refine (power_whole _ _ _ hC hz 1 (by omega) _).mono ?_
  rintro e w' ⟨x5, y5, rfl, h5, n5, rfl⟩
  obtain ⟨e3, e4⟩ := eqC h5 hC (zpow_one _)
  dsimp only at e3 e4
  go_wp2_with fail
  refine (power_whole _ _ _ hC hz 2 (by omega) _).mono ?_
  rintro e w' ⟨x6, y6, rfl, h6, n6, rfl⟩
  go_wp2_with fail
  refine (mulC _ _ _ _ hC hC (hz.le (by decide)) (hz.le (by decide)) _).mono ?_
  rintro e w' ⟨x7, y7, rfl, h7, n7, rfl⟩
  obtain ⟨e5, e6⟩ := eqC h6 h7 (by show zmul (zpow _ 1) _ = _; rw [zpow_one])
  dsimp only at e5 e6
  go_wp2_with fail
  refine (awake_any _).mono ?_
  rintro e w' ⟨rfl, n8, rfl⟩
  go_wp2
  go_ret
  exact ⟨rfl, grown_drewN _⟩

set_option maxRecDepth 100000 in
theorem lifted (os : Os) (started : os.Started) (H : Type) (enc : TypeId × Value → H) :
    ReturnsInHanded {} Try.checked os 8 .any (Rows.cplxPowersAddSpec.pre6 enc Try.prog Try.f8 Rows.cplxPowersAddRow.domain false) (Rows.cplxPowersAddSpec.post enc Try.prog Try.f8 false true false false) := by
  refine returnsInHanded_of_change (C := Try.checked) own started (by kernel_rfl) Try.func8
    (ChangeSpec.witness6 (enc := enc) (C := Try.checked) false ⟨#[], #[.int .i64 0, .int .i64 0, .int .i64 0, .int .i64 0], []⟩ 8 (by kernel_rfl) (by kernel_rfl) (by kernel_rfl) (by kernel_rfl)) ?_
  intro W base args ds gs before hval0 hW hcnd _
  have hval : ∀ (j : Nat) t v, Try.f8.params[j]? = some t → args[j]? = some v → Value.okWide Try.prog W .any base t v := hval0
  have hW' := hW
  obtain ⟨p, q, hA0, hV, rfl, hfz, hnd⟩ := hW
  have hA : DataW.TrodAll enc Try.prog W 0 (fun _ => true) true Try.f8.params.toList args.toList ds p := hA0
  rw [Try.params8] at hA hval
  obtain ⟨v0, vs0, d0, ds0, p0, q0, hargs, rfl, rfl, h0, r0⟩ := trodAll_cons hA
  obtain ⟨v1, vs1, d1, ds1, p1, q1, rfl, rfl, rfl, h1, r1⟩ := trodAll_cons r0
  obtain ⟨v2, vs2, d2, ds2, p2, q2, rfl, rfl, rfl, h2, r2⟩ := trodAll_cons r1
  obtain ⟨v3, vs3, d3, ds3, p3, q3, rfl, rfl, rfl, h3, r3⟩ := trodAll_cons r2
  obtain ⟨rfl, rfl, rfl⟩ := trodAll_nil r3
  obtain rfl : args = #[v0, v1, v2, v3] := by cases args; simp_all
  obtain ⟨rfl, rfl⟩ := trodVars_none hV
  obtain ⟨a0, rfl, rfl, rfl, w0⟩ := open_int Try.underlying3 (hval 0 3 v0 rfl rfl) h0
  obtain ⟨a1, rfl, rfl, rfl, w1⟩ := open_int Try.underlying3 (hval 1 3 v1 rfl rfl) h1
  obtain ⟨a2, rfl, rfl, rfl, w2⟩ := open_int Try.underlying3 (hval 2 3 v2 rfl rfl) h2
  obtain ⟨a3, rfl, rfl, rfl, w3⟩ := open_int Try.underlying3 (hval 3 3 v3 rfl rfl) h3
  clear hA0 hval0
  simp only [List.append_nil] at hW'
  refine (walk a0 a1 a2 a3 w0 w1 w2 w3 W).mono fun e W' ⟨he, hg⟩ => ?_
  subst he
  exact ⟨_, rfl, post_of_same (pa := []) (pv := []) hW' (fun _ _ _ => (trodAll_cons_mk (shut_bool Try.underlying4 _) trodAll_mk0)) (fun sp _ => (trodAll_cons_mk (shut_int Try.underlying3 w0) (trodAll_cons_mk (shut_int Try.underlying3 w1) (trodAll_cons_mk (shut_int Try.underlying3 w2) (trodAll_cons_mk (shut_int Try.underlying3 w3) trodAll_mk0))))) (fun _ _ => rfl) rfl
    (hg.frame _) hg.2.1 (ok_one (by kernel_rfl) rfl (okWide_bool_mk Try.underlying4 _))⟩

theorem over : Rows.cplxPowersAddRow.holds Try.pinned (OpenSpec.ofChange Rows.cplxPowersAddSpec) :=
  OpenClaim.holds_of_wide 8 Try.f8 rfl rfl rfl rfl rfl rfl rfl ⟨rfl, rfl, rfl, rfl, rfl⟩ rfl rfl rfl rfl rfl (by kernel_rfl) Try.func8 (by kernel_rfl)
    (of_decide_eq_true (by kernel_rfl)) (by unfold Func.isWrapper; first | (rw [if_pos (by decide +kernel)]; kernel_rfl) | (rw [if_neg (by decide +kernel)]; exact ⟨rfl, rfl⟩))
    (fun os started H enc _ => lifted os started H enc)

theorem proved : Rows.CplxPowersAddSaid :=
  over
#print axioms proved
end Go.Proofs.Ytogejpepaggagaa.cplxPowersAdd
