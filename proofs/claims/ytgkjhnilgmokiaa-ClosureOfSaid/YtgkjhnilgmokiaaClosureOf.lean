/-
  For every row of writes and every table of references, closure.Of gives what the reference's Closure gives, with the table and with none; conditions: those of the statement.
-/
import Derived.Test.YtgkjhnilgmokiaaRows
import Derived.WalkKit
import Derived.WalkSpells
import Derived.WalkLawsBesides
import Derived.WalkMore
import Derived.ProofKit
import Derived.OpenShut
import Derived.ShutString
import Derived.ChangeOld
import Derived.Below
import Derived.SizedLaws
import Derived.Lib.Hide
import Derived.Test.YtgkjhnilgmokiaaOpen
import Derived.Test.YtgkjhnilgmokiaaAw
namespace Go.Proofs.Ytgkjhnilgmokiaa.closureOf
open Go.RowKit Go.ChangeShapes Go.WideShapes Go.ChangeAt Go.Proofs.YtgkjhnilgmokiaaW.PrintWords
set_option linter.unusedVariables false
open Ha Hp Cl Clo W8 Of Fo Aw
theorem rt_congr (_t : List (List Int)) (l : List W8) : clo (Rt []) 65 (sd l) 0 = sd l := by
  have h : clo (Rt []) 65 (sd l) 0 = clo (fun _ => []) 65 (sd l) 0 := clo_congr (fun x hx => by unfold Rt; rw [if_neg (by have := vol_iff.1 hx; simp; omega)]) 65 _ _ (gd_sd l)
  rw [h, clo_none]
set_option maxHeartbeats 4000000 in
theorem walk (w : World) (A0 : Option Addr) (c0 : Nat) (x0 : List W8.W8) (hc0 : x0.length ≤ c0) (hr0 : Kd.C W8.k8 w A0 x0.length x0) (ok0 : x0.length ≤ maxLen ∧ ∀ y ∈ x0, W8.ok8 y) (A1 : Option Addr) (c1 : Nat) (x1 : List (List Int)) (hc1 : x1.length ≤ c1) (hr1 : Kd.C (Kd.slice 3 (Kd.int .i64)) w A1 x1.length x1) (ok1 : x1.length ≤ maxLen ∧ ∀ y ∈ x1, y.length ≤ maxLen ∧ ∀ z ∈ y, (Lit.int .i64 z).wf = true) :
    Calls Try.prog 3 #[.slice A0 x0.length c0, .slice A1 x1.length c1] w fun e w' => e = .returned (.bool true) ∧ Below w.heap.size w w' := by
  have hm0 := Kd.C_max hr0
  have HR0 := Lib.hid hr0
  have HR1 := Lib.hid hr1
  clear hr0 hr1 ok0 ok1
  go_enter Try.func3, Try.ntmps3
  go_wp2_with fail
  refine (light_any A1 c1 x1 A0 x0.length c0 w HR1.out hm0).mono ?_
  rintro e w1 ⟨⟨b, rfl, hL⟩, rfl⟩
  cases b
  · clear hL
    go_wp2_with fail
    refine (Aw.awake_any _).mono ?_
    rintro e w1 ⟨rfl, hb⟩
    go_wp2
    go_ret
    exact ⟨rfl, hb⟩
  · obtain ⟨l1, l2, l3⟩ := hL rfl
    have L3 := Lib.hid l3
    clear hL l3
    go_wp2_with fail
    refine (refs_any A1 x1.length c1 w).mono ?_
    rintro e w1 ⟨rfl, rfl⟩
    have hT := Lib.hid (heap_alloc_new w (.cells #[.slice A1 x1.length c1] 23))
    have hb1 := (Below.refl w.heap.size w).alloc (Nat.le_refl _) (.cells #[.slice A1 x1.length c1] 23)
    go_wp2_with fail
    refine (of_37 x1 A1 c1 w.heap.size A0 c0 x0 _ (Kd.C_below HR0.out hb1) (by omega) hT.out (Kd.C_below HR1.out hb1) L3.out l1).mono ?_
    rintro e w2 ⟨v2, rfl, ho2, hb2⟩
    have hb2 := hb1.trans (hb2.mono hb1.size)
    have hgF := gd_le (gd_clo (R := Rt x1) 65 (sd x0) 0 (gd_sd x0))
    have hgS := gd_le (gd_sd x0)
    have HRC := Lib.hid (rt_congr [] x0)
    obtain ⟨F, hF⟩ : ∃ F, clo (Rt x1) 65 (sd x0) 0 = F := ⟨_, rfl⟩
    rw [hF] at ho2 hgF
    have HF := Lib.hid hF
    clear hF hT hb1
    obtain ⟨_, A2, c2, rfl, hr2⟩ := own_rd ho2
    have HO2 := Lib.hid ho2
    clear ho2 hr2
    go_wp2_with fail
    refine (closure_any A1 c1 x1 A0 c0 x0 _ (Kd.C_below HR0.out hb2) (by omega) (Kd.C_below HR1.out hb2) L3.out l1).mono ?_
    rintro e w3 ⟨v3, rfl, ho3, hb3⟩
    rw [HF.out] at ho3
    have hr2 := (own_rd (own_below HO2.out hb3 (Nat.le_refl _))).2
    obtain ⟨A2', c2', e2, hr2⟩ := hr2
    injection e2 with e2 _ e3
    subst e2 e3
    obtain ⟨_, A3, c3, rfl, hr3⟩ := own_rd ho3
    have hb3 := hb2.trans (hb3.mono hb2.size)
    have HR2 := Lib.hid hr2
    have HR3 := Lib.hid hr3
    clear hb2 ho3 hr2 hr3 HO2
    go_wp2_with fail
    refine (same_yes A2 A3 c2 c3 F _ (by omega) HR2.out HR3.out).mono ?_
    rintro e w4 ⟨rfl, hb4⟩
    have hb4 := hb3.trans (hb4.mono hb3.size)
    clear hb3
    go_wp2_with fail
    refine (of_nil A0 c0 x0 _ (Kd.C_below HR0.out hb4) (by omega)).mono ?_
    rintro e w5 ⟨v5, rfl, ho5, hb5⟩
    have hb5 := hb4.trans (hb5.mono hb4.size)
    obtain ⟨_, A5, c5, rfl, hr5⟩ := own_rd ho5
    have HO5 := Lib.hid ho5
    clear ho5 hr5 hb4
    go_wp2_with fail
    refine (closure_any none 0 [] A0 c0 x0 _ (Kd.C_below HR0.out hb5) (by omega) (Kd.C_nil _ _) (by simp) (by simp)).mono ?_
    rintro e w6 ⟨v6, rfl, ho6, hb6⟩
    rw [HRC.out] at ho6
    have hr5 := (own_rd (own_below HO5.out hb6 (Nat.le_refl _))).2
    obtain ⟨A5', c5', e2, hr5⟩ := hr5
    injection e2 with e2 _ e3
    subst e2 e3
    obtain ⟨_, A6, c6, rfl, hr6⟩ := own_rd ho6
    have hb6 := hb5.trans (hb6.mono hb5.size)
    have HR5 := Lib.hid hr5
    have HR6 := Lib.hid hr6
    clear hb5 ho6 hr5 hr6 HO5
    go_wp2_with fail
    refine (same_yes A5 A6 c5 c6 (sd x0) _ (by omega) HR5.out HR6.out).mono ?_
    rintro e w7 ⟨rfl, hb7⟩
    have hb7 := hb6.trans (hb7.mono hb6.size)
    clear hb6
    go_wp2_with fail
    refine (Aw.awake_any _).mono ?_
    rintro e w8 ⟨rfl, hb8⟩
    have hb8 := hb7.trans (hb8.mono hb7.size)
    clear hb7
    go_wp2
    go_ret
    exact ⟨rfl, hb8⟩

theorem own : ownKnob Try.prog.godebug = none := by kernel_rfl
theorem laidOut : laidOutB Try.prog = true := by kernel_rfl
set_option maxRecDepth 100000 in
theorem lifted (os : Os) (started : os.Started) (H : Type) (enc : TypeId × Value → H) :
    ReturnsInHanded {} Try.checked os 3 .any (Rows.closureOfSpec.pre6 enc Try.prog Try.f3 Rows.closureOfRow.domain false) (Rows.closureOfSpec.post enc Try.prog Try.f3 false true false false) := by
  refine returnsInHanded_of_change (C := Try.checked) own started (by kernel_rfl) Try.func3
    (ChangeSpec.witness6 (enc := enc) (C := Try.checked) false ⟨#[], #[.slice none 0 0, .slice none 0 0], []⟩ 8 (by kernel_rfl) (by kernel_rfl) (by kernel_rfl) (by kernel_rfl)) ?_
  intro W base args ds gs before hval0 hW hcnd _
  have hval : ∀ (j : Nat) t v, Try.f3.params[j]? = some t → args[j]? = some v → Value.okWide Try.prog W .any base t v := hval0
  have hW' := hW
  obtain ⟨p, q, hA0, hV, rfl, hfz, hnd⟩ := hW
  have hA : DataW.TrodAll enc Try.prog W 0 (fun _ => true) true Try.f3.params.toList args.toList ds p := hA0
  rw [Try.params3] at hA hval
  obtain ⟨v0, vs0, d0, ds0, p0, q0, hargs, rfl, rfl, h0, r0⟩ := trodAll_cons hA
  obtain ⟨v1, vs1, d1, ds1, p1, q1, rfl, rfl, rfl, h1, r1⟩ := trodAll_cons r0
  obtain ⟨rfl, rfl, rfl⟩ := trodAll_nil r1
  obtain rfl : args = #[v0, v1] := by cases args; simp_all
  obtain ⟨rfl, rfl⟩ := trodVars_none hV
  obtain ⟨a0, len0, cap0, rfl⟩ := okWide_slice Try.underlying22 (hval 0 22 v0 rfl rfl)
  have k0 := h0
  have lt0 : ∀ x ∈ p0, x.block < W.heap.size := by obtain ⟨m, hm⟩ := k0; exact DataW.trod_lt m _ _ _ hm
  obtain ⟨fuel0, hf0⟩ := h0
  obtain ⟨x0, ⟨A0, c0, e0, hc0, hr0⟩, ok0⟩ := Op.opens_slice (n := 38) Try.underlying22 (by kernel_rfl) (W8.opens_w8) H enc W 0 _ _ _ _ _ hf0
  obtain ⟨rfl, rfl, rfl⟩ : a0 = A0 ∧ len0 = x0.length ∧ cap0 = c0 := by simpa [Value.cells] using e0
  obtain ⟨a1, len1, cap1, rfl⟩ := okWide_slice Try.underlying23 (hval 1 23 v1 rfl rfl)
  have k1 := h1
  have lt1 : ∀ x ∈ p1, x.block < W.heap.size := by obtain ⟨m, hm⟩ := k1; exact DataW.trod_lt m _ _ _ hm
  obtain ⟨fuel1, hf1⟩ := h1
  obtain ⟨x1, ⟨A1, c1, e1, hc1, hr1⟩, ok1⟩ := Op.opens_slice (n := 27) Try.underlying23 (by kernel_rfl) (Op.opens_slice (n := 3) Try.underlying27 (by kernel_rfl) (Op.opens_int Try.underlying3)) H enc W 0 _ _ _ _ _ hf1
  obtain ⟨rfl, rfl, rfl⟩ : a1 = A1 ∧ len1 = x1.length ∧ cap1 = c1 := by simpa [Value.cells] using e1
  clear hA0 hval0
  refine (walk W _ _ x0 hc0 hr0 ok0 _ _ x1 hc1 hr1 ok1).mono fun e W' ⟨he, bel⟩ => ?_
  subst he
  exact ⟨_, rfl, _, _, _, [], _, [], hW', trodAll_mk1 (shut_bool Try.underlying4 _), (trodAll_cons_mk (Below.trod laidOut (by kernel_rfl) (of_decide_eq_true (by kernel_rfl)) k0 bel lt0) (trodAll_cons_mk (Below.trod laidOut (by kernel_rfl) (of_decide_eq_true (by kernel_rfl)) k1 bel lt1) trodAll_mk0)), rfl, bel.frame _, fun h => by cases h⟩
theorem over : Rows.closureOfRow.holds Try.pinned (OpenSpec.ofChange Rows.closureOfSpec) :=
  OpenClaim.holds_of_wide 3 Try.f3 rfl rfl rfl rfl rfl rfl rfl ⟨rfl, rfl, rfl, rfl, rfl⟩ rfl rfl rfl rfl rfl (by kernel_rfl) Try.func3 (by kernel_rfl)
    (of_decide_eq_true (by kernel_rfl)) (by unfold Func.isWrapper; first | (rw [if_pos (by decide +kernel)]; kernel_rfl) | (rw [if_neg (by decide +kernel)]; exact ⟨rfl, rfl⟩))
    (fun os started H enc _ => lifted os started H enc)
theorem proved : Rows.ClosureOfSaid := over
#print axioms proved
end Go.Proofs.Ytgkjhnilgmokiaa.closureOf
