/-
  Any number as a text, any text as a number.
-/
import Derived.Test.YtogejpepaggagaaDoorRows
import Derived.WalkKit
import Derived.WalkSpells
import Derived.WalkLawsBesides
import Derived.WalkMore
import Derived.ProofKit
import Derived.OpenShut
import Derived.ShutString
import Derived.ChangeOld
import Derived.Below
import Derived.SizedLaws
import Derived.Lib.Hide
import Derived.ChangeMaps5
import Derived.Test.YtogejpepaggagaaDoorOpen
import Derived.Test.YtogejpepaggagaaDoorVt
import Derived.Test.YtogejpepaggagaaDoorTie
import Derived.Test.YtogejpepaggagaaDoorCards
import Derived.SevenTiedAt
import Derived.Test.YtogejpepaggagaaDoorRp
namespace Go.Proofs.YtogejpepaggagaaDoor.cplxTexts
open Go.RowKit Go.ChangeShapes Go.WideShapes Go.ChangeAt Go.Proofs.YtogejpepaggagaaDoorW.PrintWords
set_option linter.unusedVariables false
open Go.Proofs.YtogejpepaggagaaDoor.Ba Go.Proofs.YtogejpepaggagaaDoor.Vb Go.Proofs.YtogejpepaggagaaDoor.Tx Go.Proofs.YtogejpepaggagaaDoor.Ps Go.Proofs.YtogejpepaggagaaDoor.Fb Go.Proofs.YtogejpepaggagaaDoor.Rp
set_option maxHeartbeats 8000000
set_option maxRecDepth 100000
theorem u64_nat {a : Int} (h : (Lit.int .u64 a).wf = true) : ∃ n : Nat, a = (n : Int) ∧ n < 18446744073709551616 := by
  simp [Lit.wf, IntKind.min, IntKind.max, IntKind.signed, IntKind.bits] at h
  exact ⟨a.toNat, by omega, by omega⟩
theorem parse_form (s : ByteArray) : ∃ p q b, parseV s = .tuple #[.complex .f64 p q, .bool b] := by
  unfold parseV
  split
  · split
    · split
      · exact ⟨_, _, _, rfl⟩
      · exact ⟨_, _, _, rfl⟩
    · exact ⟨_, _, _, rfl⟩
  · exact ⟨_, _, _, rfl⟩
theorem same_is (a b : Nat) (w : World) : Calls Tryd.prog 9 #[.complex .f64 a b, .complex .f64 a b] w fun e w' => e = .returned (.bool true) ∧ w = w' := by
  refine (same_any a b a b w).mono fun e w' h' => ?_
  rw [show decide (a = a ∧ b = b) = true by simp] at h'
  exact h'
theorem walk (w : World) (HT0 : Vp.Tab w) (a0 : Int) (w0 : (Lit.int .u64 a0).wf = true) (a1 : Int) (w1 : (Lit.int .u64 a1).wf = true) (s2 : ByteArray) (w2 : s2.size ≤ maxLen) :
    Calls Tryd.prog 3 #[.int .u64 a0, .int .u64 a1, .string s2] w fun e w' => e = .returned (.bool true) ∧ Below w.heap.size w w' := by
  obtain ⟨n0, rfl, h0⟩ := u64_nat w0
  obtain ⟨n1, rfl, h1⟩ := u64_nat w1
  obtain ⟨p, q, b, hp⟩ := parse_form s2
  have HP1 := Lib.hid (fun (W : World) => parse_any s2 W)
  have HP2 := Lib.hid (fun (W : World) => rparse_any s2 W)
  rw [hp] at HP1 HP2
  have HX1 := Lib.hid (fun (W : World) => text_any n0 n1 W h0 h1)
  have HX2 := Lib.hid (fun (W : World) (h : Tz W) => rtext_any n0 n1 h0 h1 W h)
  obtain ⟨D, hD⟩ : ∃ D : ByteArray, (⟨(textB n0 n1).toArray⟩ : ByteArray) = D := ⟨_, rfl⟩
  rw [hD] at HX1 HX2
  have HT := Lib.hid HT0
  have bb : (b == b) = true := by simp
  have dd : (D.toList == D.toList) = true := by simp
  clear hp hD HT0 w0 w1 w2 h0 h1
  go_enter Tryd.func3, Tryd.ntmps3
  go_wp2_with (first | (go_at_call 4; refine (of19 _ _ _).mono ?_; rintro e wx ⟨rfl, rfl⟩) | (go_at_call 5; refine (HP1.out _).mono ?_; rintro e wx ⟨rfl, rfl⟩) | (go_at_call 6; refine (HP2.out _).mono ?_; rintro e wx ⟨rfl, rfl⟩) | fail)
  refine (HX1.out _).mono ?_
  rintro e w1 ⟨rfl, hb1⟩
  have HB1 := Lib.hid hb1
  have HT1 := Lib.hid (HT.out.below hb1)
  clear hb1
  go_wp2_with fail
  refine (HX2.out _ HT1.out).mono ?_
  rintro e w2 ⟨rfl, hb2⟩
  have HB2 := Lib.hid (HB1.out.trans (hb2.mono HB1.out.size))
  clear hb2
  go_wp2_with fail
  refine (same_is _ _ _).mono ?_
  rintro e wx ⟨rfl, rfl⟩
  go_wp2_with fail
  refine (awake_any _).mono ?_
  rintro e wx ⟨rfl, k, rfl⟩
  have HB3 := Lib.hid (HB2.out.trans ((drewN_below w2 k).mono HB2.out.size))
  go_wp2
  go_ret
  exact ⟨rfl, HB3.out⟩

theorem own : ownKnob Tryd.prog.godebug = none := by kernel_rfl
theorem laidOut : laidOutB Tryd.prog = true := by kernel_rfl
set_option maxRecDepth 100000 in
theorem lifted (os : Os) (started : os.Started) (H : Type) (enc : TypeId × Value → H) :
    ReturnsInHanded {} Tryd.checked os 3 .any (fun w args => (Rows.cplxTextsSpec.pre enc Tryd.prog Tryd.f3 [] false w args ∧ laidMetH Tryd.prog Vt.laid w) ∧ sizedMet enc Tryd.prog Tryd.f3 (OpenSpec.ofChange Rows.cplxTextsSpec) false w args) (Rows.cplxTextsSpec.post enc Tryd.prog Tryd.f3 false true false false) := by
  refine returnsInHanded_of_change_and (C := Tryd.checked) (X := fun w _ => laidMetH Tryd.prog Vt.laid w) (fun _ _ _ hh h => h.of_heap hh) own started (by kernel_rfl) Tryd.func3
    (ChangeSpec.witness_shaped (enc := enc) (C := Tryd.checked) (os := os) (X := fun w _ => laidMetH Tryd.prog Vt.laid w) false (World.doorLaid Tryd.prog 400 os) #[.int .u64 0, .int .u64 0, .string ⟨#[]⟩] 8 rfl (World.shaped_of_RefB (by kernel_rfl) (by kernel_rfl)) (by kernel_rfl) (by kernel_rfl) (by kernel_rfl) (Vt.door_met os _)) ?_
  intro W base args ds gs before hval0 hW _ _ hL _
  have hval : ∀ (j : Nat) t v, Tryd.f3.params[j]? = some t → args[j]? = some v → Value.okWide Tryd.prog W .any base t v := hval0
  have hW' := hW
  obtain ⟨p, q, hA0, hV, rfl, hfz, hnd⟩ := hW
  have hA : DataW.TrodAll enc Tryd.prog W 0 (fun _ => true) true Tryd.f3.params.toList args.toList ds p := hA0
  rw [Tryd.params3] at hA hval
  obtain ⟨v0, vs0, d0, ds0, p0, q0, hargs, rfl, rfl, h0, r0⟩ := trodAll_cons hA
  obtain ⟨v1, vs1, d1, ds1, p1, q1, rfl, rfl, rfl, h1, r1⟩ := trodAll_cons r0
  obtain ⟨v2, vs2, d2, ds2, p2, q2, rfl, rfl, rfl, h2, r2⟩ := trodAll_cons r1
  obtain ⟨rfl, rfl, rfl⟩ := trodAll_nil r2
  obtain rfl : args = #[v0, v1, v2] := by cases args; simp_all
  obtain ⟨rfl, rfl⟩ := trodVars_none hV
  obtain ⟨a0, rfl, rfl, rfl, w0⟩ := open_int Tryd.underlying22 (hval 0 22 v0 rfl rfl) h0
  obtain ⟨a1, rfl, rfl, rfl, w1⟩ := open_int Tryd.underlying22 (hval 1 22 v1 rfl rfl) h1
  obtain ⟨s2, rfl, rfl, rfl, w2⟩ := Go.ChangeMaps.open_string Tryd.underlying9 (hval 2 9 v2 rfl rfl) h2
  clear hA0 hval0
  refine (walk W (Vt.tab hL) a0 w0 a1 w1 s2 w2).mono fun e W' ⟨he, bel⟩ => ?_
  subst he
  exact ⟨_, rfl, _, _, _, [], _, [], hW', trodAll_mk1 (shut_bool Tryd.underlying4 _), (trodAll_cons_mk (shut_int Tryd.underlying22 w0) (trodAll_cons_mk (shut_int Tryd.underlying22 w1) (trodAll_cons_mk (Go.ChangeMaps.shut_string Tryd.underlying9 w2) trodAll_mk0))), rfl, bel.frame _, fun h => by cases h⟩
theorem over : Rows.cplxTextsRow.holds Tryd.pinned (OpenSpec.ofChange Rows.cplxTextsSpec) :=
  OpenClaim.holds_of_wide 3 Tryd.f3 rfl rfl rfl rfl rfl rfl rfl ⟨rfl, rfl, rfl, rfl, rfl⟩ rfl rfl rfl rfl rfl (by kernel_rfl) Tryd.func3 (by kernel_rfl)
    (of_decide_eq_true (by kernel_rfl)) (by unfold Func.isWrapper; first | (rw [if_pos (by decide +kernel)]; kernel_rfl) | (rw [if_neg (by decide +kernel)]; exact ⟨rfl, rfl⟩))
    (fun os started H enc _ => lifted os started H enc)
theorem proved : Rows.CplxTextsCardSaid :=
  Claim7.holds_tied_plain_at .later [] [.data, .data, .data] true (true, "187976df0f9e332b1a36d9ad6f70e37dc94f1599787bf9d3b930a21a3a62c874") false
    over (fun _ h => by cases h) (by kernel_rfl) (fun _ h => by cases h) cplxTexts_row_tie rfl ⟨rfl, rfl⟩ (by kernel_rfl) rfl
    (fun f fn hf hfn => by
      obtain rfl : f = 3 := Option.some.inj ((show Tryd.prog.funcNamed "scullion/scullionlaw1.CplxTexts" = some 3 by kernel_rfl).symm.trans hf) |>.symm
      obtain rfl : fn = Tryd.f3 := (Option.some.inj (Tryd.func3.symm.trans hfn)).symm
      exact ⟨by kernel_rfl, fun j t ht => by
        rw [Tryd.params3] at ht
        have hm : t ∈ [22, 22, 9] := by simpa using Array.mem_of_getElem? ht
        have hall : ([22, 22, 9].all fun u => !Tryd.prog.wantsStandIn u) = true := by kernel_rfl
        exact (show Tryd.prog.wantsStandIn t = false by simpa using List.all_eq_true.1 hall t hm)⟩)
    (by kernel_rfl)
#print axioms proved
end Go.Proofs.YtogejpepaggagaaDoor.cplxTexts
