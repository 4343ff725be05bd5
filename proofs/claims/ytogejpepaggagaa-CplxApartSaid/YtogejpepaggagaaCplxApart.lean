/-
  Proved: for every input the call of CplxApart returns true and each argument reads as before. No condition.
-/
import Derived.Test.YtogejpepaggagaaRows
import Derived.WalkKit
import Derived.ProofKit
import Derived.OpenShut
import Derived.Test.YtogejpepaggagaaParse
import Derived.Test.YtogejpepaggagaaPost
namespace Go.Proofs.Ytogejpepaggagaa.cplxApart
open Go.ChangeShapes Go.WideShapes Go.ChangeAt Go.RowKit
set_option linter.unusedVariables false

theorem own : ownKnob Try.prog.godebug = none := by kernel_rfl

open Cx
theorem below_drewN {B : Nat} {a w : World} (h : Below B a w) (n : Nat) : Below B a (w.drewN n) := ⟨h.os, h.tape, h.output, h.size, h.block⟩
theorem same_dec (x y u v : Nat) (w : World) (b : Bool) (hb : b = decide (x = u ∧ y = v)) :
    Calls Try.prog 21 #[.complex .f64 x y, .complex .f64 u v] w fun e w' => e = .returned (.bool b) ∧ w = w' :=
  (same_any x y u v w).mono fun _ _ ⟨he, hw⟩ => ⟨by rw [he, hb]; congr 2; rw [Bool.eq_iff_iff]; simp, hw⟩
theorem text_size (p q : Nat) : (textB p q).length = 33 := textB_length p q

theorem walk (a0 : Int) (a1 : Int) (a2 : Int) (a3 : Int) (w0 : (Lit.int .u64 a0).wf = true) (w1 : (Lit.int .u64 a1).wf = true) (w2 : (Lit.int .u64 a2).wf = true) (w3 : (Lit.int .u64 a3).wf = true) (w : World) :
    Calls Try.prog 9 #[.int .u64 a0, .int .u64 a1, .int .u64 a2, .int .u64 a3] w fun e w' => e = .returned (.bool true) ∧ Below w.heap.size w w' := by
  obtain ⟨p, rfl, hp⟩ := u64_nat w0
  obtain ⟨q, rfl, hq⟩ := u64_nat w1
  obtain ⟨r, rfl, hr⟩ := u64_nat w2
  obtain ⟨s, rfl, hs⟩ := u64_nat w3
  clear w0 w1 w2 w3
  by_cases h : p = r ∧ q = s
  · obtain ⟨rfl, rfl⟩ := h
    have ht : (textB p q == textB p q) = true := beq_self_eq_true _
    go_enter Try.func9, Try.ntmps9
    go_wp2_with (go_at_call 17; refine (of_any _ _ _).mono ?_; rintro e w' ⟨rfl, rfl⟩)
    refine (text_any p q _ hp hq).mono ?_
    rintro e w1 ⟨rfl, hb1⟩
    go_wp2_with fail
    refine (text_any p q _ hp hq).mono ?_
    rintro e w2 ⟨rfl, hb2⟩
    have hb12 := hb1.trans (hb2.mono hb1.size)
    go_wp2_with fail
    refine (same_dec _ _ _ _ _ true ((decide_eq_true ⟨rfl, rfl⟩).symm)).mono ?_
    rintro e w' ⟨rfl, rfl⟩
    go_wp2_with fail
    refine (same_dec _ _ _ _ _ true ((decide_eq_true ⟨rfl, rfl⟩).symm)).mono ?_
    rintro e w' ⟨rfl, rfl⟩
    go_wp2_with fail
    refine (same_dec _ _ _ _ _ true ((decide_eq_true ⟨rfl, rfl⟩).symm)).mono ?_
    rintro e w' ⟨rfl, rfl⟩
    go_wp2_with fail
    refine (text_any p q _ hp hq).mono ?_
    rintro e w3 ⟨rfl, hb3⟩
    have hb13 := hb12.trans (hb3.mono hb12.size)
    have hl := text_size p q
    go_wp2_with fail
    refine (awake_any _).mono ?_
    rintro e w' ⟨rfl, n8, rfl⟩
    go_wp2
    go_ret
    exact ⟨rfl, below_drewN hb13 _⟩
  · skip
    have ht : (textB p q == textB r s) = false := by
      rw [beq_eq_false_iff_ne]
      intro e
      exact h (text_inj hp hq hr hs e)
    go_enter Try.func9, Try.ntmps9
    go_wp2_with (go_at_call 17; refine (of_any _ _ _).mono ?_; rintro e w' ⟨rfl, rfl⟩)
    refine (text_any p q _ hp hq).mono ?_
    rintro e w1 ⟨rfl, hb1⟩
    go_wp2_with fail
    refine (text_any r s _ hr hs).mono ?_
    rintro e w2 ⟨rfl, hb2⟩
    have hb12 := hb1.trans (hb2.mono hb1.size)
    go_wp2_with fail
    refine (same_dec _ _ _ _ _ false ((decide_eq_false h).symm)).mono ?_
    rintro e w' ⟨rfl, rfl⟩
    go_wp2_with fail
    refine (same_dec _ _ _ _ _ false ((decide_eq_false h).symm)).mono ?_
    rintro e w' ⟨rfl, rfl⟩
    go_wp2_with fail
    refine (same_dec _ _ _ _ _ false ((decide_eq_false fun e => h ⟨e.1.symm, e.2.symm⟩).symm)).mono ?_
    rintro e w' ⟨rfl, rfl⟩
    go_wp2_with fail
    refine (text_any p q _ hp hq).mono ?_
    rintro e w3 ⟨rfl, hb3⟩
    have hb13 := hb12.trans (hb3.mono hb12.size)
    have hl := text_size p q
    go_wp2_with fail
    refine (awake_any _).mono ?_
    rintro e w' ⟨rfl, n8, rfl⟩
    go_wp2
    go_ret
    exact ⟨rfl, below_drewN hb13 _⟩

set_option maxRecDepth 100000 in
theorem lifted (os : Os) (started : os.Started) (H : Type) (enc : TypeId × Value → H) :
    ReturnsInHanded {} Try.checked os 9 .any (Rows.cplxApartSpec.pre6 enc Try.prog Try.f9 Rows.cplxApartRow.domain false) (Rows.cplxApartSpec.post enc Try.prog Try.f9 false true false false) := by
  refine returnsInHanded_of_change (C := Try.checked) own started (by kernel_rfl) Try.func9
    (ChangeSpec.witness6 (enc := enc) (C := Try.checked) false ⟨#[], #[.int .u64 0, .int .u64 0, .int .u64 0, .int .u64 0], []⟩ 8 (by kernel_rfl) (by kernel_rfl) (by kernel_rfl) (by kernel_rfl)) ?_
  intro W base args ds gs before hval0 hW hcnd _
  have hval : ∀ (j : Nat) t v, Try.f9.params[j]? = some t → args[j]? = some v → Value.okWide Try.prog W .any base t v := hval0
  have hW' := hW
  obtain ⟨p, q, hA0, hV, rfl, hfz, hnd⟩ := hW
  have hA : DataW.TrodAll enc Try.prog W 0 (fun _ => true) true Try.f9.params.toList args.toList ds p := hA0
  rw [Try.params9] at hA hval
  obtain ⟨v0, vs0, d0, ds0, p0, q0, hargs, rfl, rfl, h0, r0⟩ := trodAll_cons hA
  obtain ⟨v1, vs1, d1, ds1, p1, q1, rfl, rfl, rfl, h1, r1⟩ := trodAll_cons r0
  obtain ⟨v2, vs2, d2, ds2, p2, q2, rfl, rfl, rfl, h2, r2⟩ := trodAll_cons r1
  obtain ⟨v3, vs3, d3, ds3, p3, q3, rfl, rfl, rfl, h3, r3⟩ := trodAll_cons r2
  obtain ⟨rfl, rfl, rfl⟩ := trodAll_nil r3
  obtain rfl : args = #[v0, v1, v2, v3] := by cases args; simp_all
  obtain ⟨rfl, rfl⟩ := trodVars_none hV
  obtain ⟨a0, rfl, rfl, rfl, w0⟩ := open_int Try.underlying28 (hval 0 28 v0 rfl rfl) h0
  obtain ⟨a1, rfl, rfl, rfl, w1⟩ := open_int Try.underlying28 (hval 1 28 v1 rfl rfl) h1
  obtain ⟨a2, rfl, rfl, rfl, w2⟩ := open_int Try.underlying28 (hval 2 28 v2 rfl rfl) h2
  obtain ⟨a3, rfl, rfl, rfl, w3⟩ := open_int Try.underlying28 (hval 3 28 v3 rfl rfl) h3
  clear hA0 hval0
  simp only [List.append_nil] at hW'
  refine (walk a0 a1 a2 a3 w0 w1 w2 w3 W).mono fun e W' ⟨he, hg⟩ => ?_
  subst he
  exact ⟨_, rfl, post_of_below (pa := []) (pv := []) hW' (fun _ _ _ => (trodAll_cons_mk (shut_bool Try.underlying4 _) trodAll_mk0)) (fun sp _ => (trodAll_cons_mk (shut_int Try.underlying28 w0) (trodAll_cons_mk (shut_int Try.underlying28 w1) (trodAll_cons_mk (shut_int Try.underlying28 w2) (trodAll_cons_mk (shut_int Try.underlying28 w3) trodAll_mk0))))) (fun _ _ => rfl) rfl
    hg (ok_one (by kernel_rfl) rfl (okWide_bool_mk Try.underlying4 _))⟩

theorem over : Rows.cplxApartRow.holds Try.pinned (OpenSpec.ofChange Rows.cplxApartSpec) :=
  OpenClaim.holds_of_wide 9 Try.f9 rfl rfl rfl rfl rfl rfl rfl ⟨rfl, rfl, rfl, rfl, rfl⟩ rfl rfl rfl rfl rfl (by kernel_rfl) Try.func9 (by kernel_rfl)
    (of_decide_eq_true (by kernel_rfl)) (by unfold Func.isWrapper; first | (rw [if_pos (by decide +kernel)]; kernel_rfl) | (rw [if_neg (by decide +kernel)]; exact ⟨rfl, rfl⟩))
    (fun os started H enc _ => lifted os started H enc)

theorem proved : Rows.CplxApartSaid :=
  over
#print axioms proved
end Go.Proofs.Ytogejpepaggagaa.cplxApart
