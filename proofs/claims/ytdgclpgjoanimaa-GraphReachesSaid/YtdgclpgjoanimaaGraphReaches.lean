/-
  Any graph: May and Reach, the program's and the reference's, say the same.
-/
import Derived.Test.YtdgclpgjoanimaaRows
import Derived.WalkKit
import Derived.WalkSpells
import Derived.WalkLawsBesides
import Derived.WalkMore
import Derived.ProofKit
import Derived.OpenShut
import Derived.ShutString
import Derived.ChangeOld
import Derived.Below
import Derived.SizedLaws
import Derived.Lib.Hide
import Derived.Test.YtdgclpgjoanimaaOpen
import Derived.Test.YtdgclpgjoanimaaLw
import Derived.Deep.RegionHeld3
import Derived.Deep.DeepMust
namespace Go.Proofs.Ytdgclpgjoanimaa.graphReaches
open Go.RowKit Go.ChangeShapes Go.WideShapes Go.ChangeAt Go.Proofs.YtdgclpgjoanimaaW.PrintWords
set_option linter.unusedVariables false
open Go.Proofs.Ytdgclpgjoanimaa.Ba Go.Proofs.Ytdgclpgjoanimaa.Ma Go.Proofs.Ytdgclpgjoanimaa.Mb Go.Proofs.Ytdgclpgjoanimaa.Lw
set_option maxHeartbeats 16000000
set_option maxRecDepth 100000
theorem walk (w : World) (v0 : Value) (x0 : Ba.G3) (hk0 : Ba.GAt w v0 x0) (ok0 : Ba.ok3 x0) (A1 : Option Addr) (c1 : Nat) (x1 : List Int) (hc1 : x1.length ≤ c1) (hr1 : Kd.C (Kd.int .i64) w A1 x1.length x1) (ok1 : x1.length ≤ maxLen ∧ ∀ y ∈ x1, (Lit.int .i64 y).wf = true) :
    Calls Try.prog 3 #[v0, .slice A1 x1.length c1] w fun e w' => e = .returned (.bool true) ∧ Below w.heap.size w w' := by
  have HL := Lib.hid (rd_C hr1)
  have HG := Lib.hid hk0
  have hll := ok1.1
  have HO := Lib.hid ok0
  obtain ⟨AN, cN, AR, cR, AW, cW, rfl, _, _, _, _, _, _⟩ := hk0
  have HS := Lib.hid (St.start HG.out)
  have HL1 := Lib.hid (HL.out.below ((Below.refl w.heap.size w).alloc (Nat.le_refl _) (.cells #[.slice AN x0.ns.length cN, .slice AR x0.rs.length cR, .slice AW x0.ws.length cW] 25)).block)
  have HLT := Lib.hid (Re.light_any _ x0 _ HS.out.g HO.out)
  obtain ⟨w1, hw1⟩ : ∃ w1, w.alloc (.cells #[.slice AN x0.ns.length cN, .slice AR x0.rs.length cR, .slice AW x0.ws.length cW] 25) = w1 := ⟨_, rfl⟩
  rw [hw1] at HS HL1 HLT
  obtain ⟨k0, k1, k2⟩ := HS.out.cells
  clear hr1 ok0 ok1
  cases el : Re.lightG x0
  · rw [el] at HLT
    clear el
    go_enter Try.func3, Try.ntmps3
    go_wp2_with fail
    refine HLT.out.mono ?_
    rintro e w2 ⟨rfl, hb2⟩
    have HS2 := Lib.hid (HS.out.later hb2)
    clear hb2
    go_wp2_with fail
    refine (Aw.awake_any _).mono ?_
    rintro e w3 ⟨rfl, hb3⟩
    have HS3 := Lib.hid (HS2.out.later hb3)
    go_wp2
    go_ret
    exact ⟨rfl, HS3.out.b⟩
  · have hz := Re.light_sz el
    obtain ⟨hn, _, _, _⟩ := Re.light_ns el
    rw [el] at HLT
    clear el
    by_cases h60 : x1.length ≤ 60
    · have HZ := Lib.hid hz
      obtain ⟨RR, hRR⟩ : ∃ RR, Re.reachR x0 x1 = RR := ⟨_, rfl⟩
      have hRl : RR.length ≤ 100000 := by rw [← hRR]; have := reachR_len x0 x1 hn; omega
      have HM1 : Hid (∀ W, St w W w.heap.size AN x0.ns.length cN AR x0.rs.length cR AW x0.ws.length cW x0 → Calls Try.prog 11 #[.agg #[.slice AN x0.ns.length cN, .slice AR x0.rs.length cR, .slice AW x0.ws.length cW]] W (BoolPost (mayG x0) W)) := Lib.hid (fun W h => may_any _ x0 W h.g HZ.out)
      have HM2 : Hid (∀ W, St w W w.heap.size AN x0.ns.length cN AR x0.rs.length cR AW x0.ws.length cW x0 → Calls Try.prog 12 #[.agg #[.slice AN x0.ns.length cN, .slice AR x0.rs.length cR, .slice AW x0.ws.length cW]] W (BoolPost (mayG x0) W)) := Lib.hid (fun W h => Mc.rmay_any _ x0 W h.g HZ.out)
      have HR1 : Hid (∀ W, St w W w.heap.size AN x0.ns.length cN AR x0.rs.length cR AW x0.ws.length cW x0 → Rd W A1 x1 → Calls Try.prog 14 #[.agg #[.slice AN x0.ns.length cN, .slice AR x0.rs.length cR, .slice AW x0.ws.length cW], .slice A1 x1.length c1] W (Re.BPost W RR)) := Lib.hid (fun W h h2 => by rw [← hRR]; exact Re.reach_any _ x0 A1 c1 x1 W h.g HZ.out h2 (by omega))
      have HR2 : Hid (∀ W, St w W w.heap.size AN x0.ns.length cN AR x0.rs.length cR AW x0.ws.length cW x0 → Rd W A1 x1 → Calls Try.prog 15 #[.agg #[.slice AN x0.ns.length cN, .slice AR x0.rs.length cR, .slice AW x0.ws.length cW], .slice A1 x1.length c1] W (Re.BPost W RR)) := Lib.hid (fun W h h2 => by rw [← hRR]; exact Re.rreach_any _ x0 A1 c1 x1 W h.g HZ.out h2 (by omega))
      obtain ⟨M, hM⟩ : ∃ M, mayG x0 = M := ⟨_, rfl⟩
      rw [hM] at HM1 HM2
      clear hM hRR hz
      go_enter Try.func3, Try.ntmps3
      go_wp2_with fail
      refine HLT.out.mono ?_
      rintro e w2 ⟨rfl, hb2⟩
      have HS2 := Lib.hid (HS.out.later hb2)
      have HL2 := Lib.hid (HL1.out.below hb2.block)
      have HS2d := Lib.hid (HS2.out.later (Below.refl w2.heap.size w2).drew)
      have HL2d := Lib.hid (HL2.out.below (Below.refl w2.heap.size w2).drew.block)
      obtain ⟨d0, d1, d2⟩ := HS2.out.cells
      clear hb2 k0 k1 k2
      cases M
      all_goals
        go_wp2
        go_region_held3 (fun w' => w'.cell? ⟨w.heap.size, 0, none⟩ = some (.slice AN x0.ns.length cN) ∧ w'.cell? ⟨w.heap.size, 1, none⟩ = some (.slice AR x0.rs.length cR) ∧ w'.cell? ⟨w.heap.size, 2, none⟩ = some (.slice AW x0.ws.length cW))
          (first | (refine ⟨?_, ?_, ?_⟩ <;> assumption) | go_keep)
          (first
            | (go_at_call 11; go_must (refine (HM1.out _ HS2d.out).mono ?_; rintro e w3 ⟨rfl, hb3⟩; have HS3 := Lib.hid (HS2d.out.later hb3); have HL3 := Lib.hid (HL2d.out.below hb3.block); obtain ⟨s0, s1, s2⟩ := HS3.out.cells))
            | (go_at_call 12; go_must (refine (HM2.out _ HS3.out).mono ?_; rintro e w4 ⟨rfl, hb4⟩; have HS4 := Lib.hid (HS3.out.later hb4); have HL4 := Lib.hid (HL3.out.below hb4.block); obtain ⟨s0, s1, s2⟩ := HS4.out.cells))
            | (go_at_call 14; go_must (refine (HR1.out _ HS4.out HL4.out).mono ?_; rintro e w5 ⟨Aa, ca, rfl, _, hba, hb5⟩; have HBA := Lib.hid hba; have HS5 := Lib.hid (HS4.out.later hb5); have HL5 := Lib.hid (HL4.out.below hb5.block); obtain ⟨s0, s1, s2⟩ := HS5.out.cells))
            | (go_at_call 15; go_must (refine (HR2.out _ HS5.out HL5.out).mono ?_; rintro e w6 ⟨Ab, cb, rfl, _, hbb, hb6⟩; have HBB := Lib.hid hbb; have HBA6 := Lib.hid (HBA.out.old hb6.block); have HS6 := Lib.hid (HS5.out.later hb6); obtain ⟨s0, s1, s2⟩ := HS6.out.cells))
            | (go_at_call 13; go_must (refine (Re.sameb_any Aa Ab ca cb RR _ hRl HBA6.out HBB.out).mono ?_; rintro e w7 ⟨rfl, hb7⟩; have HS7 := Lib.hid (HS6.out.later hb7); obtain ⟨s0, s1, s2⟩ := HS7.out.cells))
            | (go_at_call 10; go_must (refine (Aw.awake_any _).mono ?_; rintro e w8 ⟨rfl, hb8⟩; have HS8 := Lib.hid (HS7.out.later hb8); obtain ⟨s0, s1, s2⟩ := HS8.out.cells)))
        go_wp2
        go_ret
        exact ⟨rfl, HS8.out.b⟩
    · go_enter Try.func3, Try.ntmps3
      go_wp2_with fail
      refine HLT.out.mono ?_
      rintro e w2 ⟨rfl, hb2⟩
      have HS2 := Lib.hid (HS.out.later hb2)
      clear hb2
      go_wp2_with fail
      refine (Aw.awake_any _).mono ?_
      rintro e w3 ⟨rfl, hb3⟩
      have HS3 := Lib.hid (HS2.out.later hb3)
      go_wp2
      go_ret
      exact ⟨rfl, HS3.out.b⟩

theorem own : ownKnob Try.prog.godebug = none := by kernel_rfl
theorem laidOut : laidOutB Try.prog = true := by kernel_rfl
set_option maxRecDepth 100000 in
theorem lifted (os : Os) (started : os.Started) (H : Type) (enc : TypeId × Value → H) :
    ReturnsInHanded {} Try.checked os 3 .any (Rows.graphReachesSpec.pre6 enc Try.prog Try.f3 Rows.graphReachesRow.domain false) (Rows.graphReachesSpec.post enc Try.prog Try.f3 false true false false) := by
  refine returnsInHanded_of_change (C := Try.checked) own started (by kernel_rfl) Try.func3
    (ChangeSpec.witness6 (enc := enc) (C := Try.checked) false ⟨#[], #[.agg #[.slice none 0 0, .slice none 0 0, .slice none 0 0], .slice none 0 0], []⟩ 8 (by kernel_rfl) (by kernel_rfl) (by kernel_rfl) (by kernel_rfl)) ?_
  intro W base args ds gs before hval0 hW hcnd _
  have hval : ∀ (j : Nat) t v, Try.f3.params[j]? = some t → args[j]? = some v → Value.okWide Try.prog W .any base t v := hval0
  have hW' := hW
  obtain ⟨p, q, hA0, hV, rfl, hfz, hnd⟩ := hW
  have hA : DataW.TrodAll enc Try.prog W 0 (fun _ => true) true Try.f3.params.toList args.toList ds p := hA0
  rw [Try.params3] at hA hval
  obtain ⟨v0, vs0, d0, ds0, p0, q0, hargs, rfl, rfl, h0, r0⟩ := trodAll_cons hA
  obtain ⟨v1, vs1, d1, ds1, p1, q1, rfl, rfl, rfl, h1, r1⟩ := trodAll_cons r0
  obtain ⟨rfl, rfl, rfl⟩ := trodAll_nil r1
  obtain rfl : args = #[v0, v1] := by cases args; simp_all
  obtain ⟨rfl, rfl⟩ := trodVars_none hV
  have k0 := h0
  have lt0 : ∀ x ∈ p0, x.block < W.heap.size := by obtain ⟨m, hm⟩ := k0; exact DataW.trod_lt m _ _ _ hm
  obtain ⟨fuel0, hf0⟩ := h0
  obtain ⟨x0, hk0, ok0⟩ := (Ba.opens_g3) H enc W 0 _ _ _ _ _ hf0
  have hg0 := Ba.gat_of (hval 0 25 v0 rfl rfl) hk0
  obtain ⟨a1, len1, cap1, rfl⟩ := okWide_slice Try.underlying23 (hval 1 23 v1 rfl rfl)
  have k1 := h1
  have lt1 : ∀ x ∈ p1, x.block < W.heap.size := by obtain ⟨m, hm⟩ := k1; exact DataW.trod_lt m _ _ _ hm
  obtain ⟨fuel1, hf1⟩ := h1
  obtain ⟨x1, ⟨A1, c1, e1, hc1, hr1⟩, ok1⟩ := Op.opens_slice (n := 3) Try.underlying23 (by kernel_rfl) (Op.opens_int Try.underlying3) H enc W 0 _ _ _ _ _ hf1
  obtain ⟨rfl, rfl, rfl⟩ : a1 = A1 ∧ len1 = x1.length ∧ cap1 = c1 := by simpa [Value.cells] using e1
  clear hA0 hval0
  refine (walk W _ x0 hg0 ok0 _ _ x1 hc1 hr1 ok1).mono fun e W' ⟨he, bel⟩ => ?_
  subst he
  exact ⟨_, rfl, _, _, _, [], _, [], hW', trodAll_mk1 (shut_bool Try.underlying4 _), (trodAll_cons_mk (Below.trod laidOut (by kernel_rfl) (of_decide_eq_true (by kernel_rfl)) k0 bel lt0) (trodAll_cons_mk (Below.trod laidOut (by kernel_rfl) (of_decide_eq_true (by kernel_rfl)) k1 bel lt1) trodAll_mk0)), rfl, bel.frame _, fun h => by cases h⟩
theorem over : Rows.graphReachesRow.holds Try.pinned (OpenSpec.ofChange Rows.graphReachesSpec) :=
  OpenClaim.holds_of_wide 3 Try.f3 rfl rfl rfl rfl rfl rfl rfl ⟨rfl, rfl, rfl, rfl, rfl⟩ rfl rfl rfl rfl rfl (by kernel_rfl) Try.func3 (by kernel_rfl)
    (of_decide_eq_true (by kernel_rfl)) (by unfold Func.isWrapper; first | (rw [if_pos (by decide +kernel)]; kernel_rfl) | (rw [if_neg (by decide +kernel)]; exact ⟨rfl, rfl⟩))
    (fun os started H enc _ => lifted os started H enc)
theorem proved : Rows.GraphReachesSaid := over
#print axioms proved
end Go.Proofs.Ytdgclpgjoanimaa.graphReaches
