/-
  A trimmed graph: each node is reached, the roots' nodes stand in their order.
-/
import Derived.Test.YtdgclpgjoanimaaRows
import Derived.WalkKit
import Derived.WalkSpells
import Derived.WalkLawsBesides
import Derived.WalkMore
import Derived.ProofKit
import Derived.OpenShut
import Derived.ShutString
import Derived.ChangeOld
import Derived.Below
import Derived.SizedLaws
import Derived.Lib.Hide
import Derived.Test.YtdgclpgjoanimaaOpen
import Derived.Test.YtdgclpgjoanimaaLw
import Derived.Test.YtdgclpgjoanimaaPt
namespace Go.Proofs.Ytdgclpgjoanimaa.graphTrimmed
open Go.RowKit Go.ChangeShapes Go.WideShapes Go.ChangeAt Go.Proofs.YtdgclpgjoanimaaW.PrintWords
set_option linter.unusedVariables false
open Go.Proofs.Ytdgclpgjoanimaa.Ba Go.Proofs.Ytdgclpgjoanimaa.Ma Go.Proofs.Ytdgclpgjoanimaa.Mb Go.Proofs.Ytdgclpgjoanimaa.Pu Go.Proofs.Ytdgclpgjoanimaa.Tr Go.Proofs.Ytdgclpgjoanimaa.Pt Go.Proofs.Ytdgclpgjoanimaa.Lw
set_option maxHeartbeats 16000000
set_option maxRecDepth 100000
theorem walk (w : World) (v0 : Value) (x0 : Ba.G3) (hk0 : Ba.GAt w v0 x0) (ok0 : Ba.ok3 x0) :
    Calls Try.prog 5 #[v0] w fun e w' => e = .returned (.bool true) ∧ Below w.heap.size w w' := by
  have HG := Lib.hid hk0
  have HO := Lib.hid ok0
  obtain ⟨AN, cN, AR, cR, AW, cW, rfl, _, _, _, _, hRR, _⟩ := hk0
  have HRS := Lib.hid hRR
  have HS := Lib.hid (St.start HG.out)
  have HLT := Lib.hid (Re.light_any _ x0 _ HS.out.g HO.out)
  obtain ⟨w1, hw1⟩ : ∃ w1, w.alloc (.cells #[.slice AN x0.ns.length cN, .slice AR x0.rs.length cR, .slice AW x0.ws.length cW] 25) = w1 := ⟨_, rfl⟩
  rw [hw1] at HS HLT
  obtain ⟨k0, k1, k2⟩ := HS.out.cells
  clear ok0 hRR
  cases el : Re.lightG x0
  · rw [el] at HLT
    clear el
    go_enter Try.func5, Try.ntmps5
    go_wp2_with fail
    refine HLT.out.mono ?_
    rintro e w2 ⟨rfl, hb2⟩
    have HS2 := Lib.hid (HS.out.later hb2)
    clear hb2
    go_wp2_with fail
    refine (Aw.awake_any _).mono ?_
    rintro e w3 ⟨rfl, hb3⟩
    have HS3 := Lib.hid (HS2.out.later hb3)
    go_wp2
    go_ret
    exact ⟨rfl, HS3.out.b⟩
  · have hz := Re.light_sz el
    obtain ⟨hn, hnr, hnw, _⟩ := Re.light_ns el
    rw [el] at HLT
    clear el
    have HZ := Lib.hid hz
    have HM1 : Hid (∀ W, GAt W (.agg #[.slice AN x0.ns.length cN, .slice AR x0.rs.length cR, .slice AW x0.ws.length cW]) x0 → Calls Try.prog 11 #[.agg #[.slice AN x0.ns.length cN, .slice AR x0.rs.length cR, .slice AW x0.ws.length cW]] W (BoolPost (mayG x0) W)) := Lib.hid (fun W h => may_any _ x0 W h HZ.out)
    cases em : mayG x0
    · rw [em] at HM1
      clear em hz
      go_enter Try.func5, Try.ntmps5
      go_wp2_with fail
      refine HLT.out.mono ?_
      rintro e w2 ⟨rfl, hb2⟩
      have HS2 := Lib.hid (HS.out.later hb2)
      obtain ⟨d0, d1, d2⟩ := HS2.out.cells
      clear hb2 k0 k1 k2
      go_wp2_with fail
      refine (HM1.out _ HS2.out.g).mono ?_
      rintro e w3 ⟨rfl, hb3⟩
      have HS3 := Lib.hid (HS2.out.later hb3)
      clear hb3
      go_wp2_with fail
      refine (Aw.awake_any _).mono ?_
      rintro e w4 ⟨rfl, hb4⟩
      have HS4 := Lib.hid (HS3.out.later hb4)
      go_wp2
      go_ret
      exact ⟨rfl, HS4.out.b⟩
    · obtain ⟨W, hWe⟩ : ∃ W, walkL x0 x0.rs = W := ⟨_, rfl⟩
      have HT : Hid (∀ W', GAt W' (.agg #[.slice AN x0.ns.length cN, .slice AR x0.rs.length cR, .slice AW x0.ws.length cW]) x0 → Calls Try.prog 16 #[.agg #[.slice AN x0.ns.length cN, .slice AR x0.rs.length cR, .slice AW x0.ws.length cW]] W' (fun e w' => ∃ AT cT BT dT CT eT, e = .returned (.agg #[.slice AT W.length cT, .slice BT x0.rs.length dT, .slice CT x0.ws.length eT]) ∧ GAt w' (.agg #[.slice AT W.length cT, .slice BT x0.rs.length dT, .slice CT x0.ws.length eT]) (trimW x0 W) ∧ Below W'.heap.size W' w')) := Lib.hid (fun W' h => by
        refine (Tm.trim_any _ x0 W' h HZ.out).mono ?_
        rintro e w' ⟨v, rfl, hg, hb⟩
        have e1 : trimL x0 = trimW x0 W := by unfold trimL; rw [em, hWe]; rfl
        rw [e1] at hg
        have hg' := hg
        obtain ⟨AT, cT, BT, dT, CT, eT, rfl, _⟩ := hg
        have l1 : (trimW x0 W).ns.length = W.length := by simp [trimW]
        have l2 : (trimW x0 W).rs.length = x0.rs.length := by simp [trimW, To.movedL]
        have l3 : (trimW x0 W).ws.length = x0.ws.length := by simp [trimW, To.movedL]
        rw [l1, l2, l3] at hg'
        rw [l1, l2, l3]
        exact ⟨AT, cT, BT, dT, CT, eT, rfl, hg', hb⟩)
      have hsz := trim_sz hz hWe.symm
      have hmt := trim_may em hWe.symm
      have hre := trim_reach (g := x0) hWe.symm
      have HM2 : Hid (∀ W' AT cT BT dT CT eT, GAt W' (.agg #[.slice AT W.length cT, .slice BT x0.rs.length dT, .slice CT x0.ws.length eT]) (trimW x0 W) → Calls Try.prog 11 #[.agg #[.slice AT W.length cT, .slice BT x0.rs.length dT, .slice CT x0.ws.length eT]] W' (BoolPost true W')) := Lib.hid (fun W' AT cT BT dT CT eT h => by rw [← hmt]; exact may_any _ _ W' h hsz)
      have HRT : Hid (∀ W' AT cT BT dT CT eT, GAt W' (.agg #[.slice AT W.length cT, .slice BT x0.rs.length dT, .slice CT x0.ws.length eT]) (trimW x0 W) → Rd W' BT (trimW x0 W).rs → Calls Try.prog 14 #[.agg #[.slice AT W.length cT, .slice BT x0.rs.length dT, .slice CT x0.ws.length eT], .slice BT x0.rs.length dT] W' (fun e w' => ∃ A c, e = .returned (.slice A W.length c) ∧ Re.BRd w' A (List.replicate W.length true) ∧ Below W'.heap.size W' w')) := Lib.hid (fun W' AT cT BT dT CT eT h hr => by
        have l2 : (trimW x0 W).rs.length = x0.rs.length := by simp [trimW, To.movedL]
        have hc := Re.reach_any _ (trimW x0 W) BT dT (trimW x0 W).rs W' h hsz hr (by rw [l2]; omega)
        rw [l2] at hc
        refine hc.mono ?_
        rintro e w' ⟨A, c, rfl, _, hba, hb⟩
        have e1 : Re.reachR (trimW x0 W) (trimW x0 W).rs = List.replicate W.length true := by unfold Re.reachR; rw [hmt, if_pos rfl, hre]
        rw [e1] at hba ⊢
        rw [List.length_replicate]
        exact ⟨A, c, rfl, hba, hb⟩)
      have HRG : Hid (∀ W', GAt W' (.agg #[.slice AN x0.ns.length cN, .slice AR x0.rs.length cR, .slice AW x0.ws.length cW]) x0 → Rd W' AR x0.rs → Calls Try.prog 14 #[.agg #[.slice AN x0.ns.length cN, .slice AR x0.rs.length cR, .slice AW x0.ws.length cW], .slice AR x0.rs.length cR] W' (fun e w' => ∃ A c, e = .returned (.slice A x0.ns.length c) ∧ Re.BRd w' A (reachL x0 x0.rs) ∧ Below W'.heap.size W' w')) := Lib.hid (fun W' h h2 => by
        refine (Re.reach_any _ x0 AR cR x0.rs W' h HZ.out h2 (by omega)).mono ?_
        rintro e w' ⟨A, c, rfl, _, hba, hb⟩
        have e1 : Re.reachR x0 x0.rs = reachL x0 x0.rs := by unfold Re.reachR; rw [em]; rfl
        rw [e1] at hba ⊢
        rw [reachL_len]
        exact ⟨A, c, rfl, hba, hb⟩)
      rw [em] at HM1
      have HRL := Lib.hid (fun i h => reachL_at x0 x0.rs i h)
      have HRLL := Lib.hid (reachL_len x0 x0.rs)
      have HCW := Lib.hid (cnt_walk x0 x0.rs)
      have HCL := Lib.hid (cnt_le x0.ns.length W)
      have HST := Lib.hid (fun k hk => root_step em (k := k) hk)
      have HNL := Lib.hid (nxt_le x0)
      rw [hWe] at HRL HCW HST
      have HTR : Hid ((trimW x0 W).rs = x0.rs.map (To.mv (placeL x0.ns.length W))) := Lib.hid rfl
      have hWl : W.length ≤ 60 := by have := gd_le (gd_walk x0 x0.rs); rw [hWe] at this; omega
      clear em hz hsz hmt hre hWe
      obtain ⟨nN, hnN⟩ : ∃ n, x0.ns.length = n := ⟨_, rfl⟩
      obtain ⟨nR, hnR⟩ : ∃ n, x0.rs.length = n := ⟨_, rfl⟩
      obtain ⟨nW, hnW⟩ : ∃ n, x0.ws.length = n := ⟨_, rfl⟩
      have HNR := Lib.hid hnR
      rw [hnN] at HM1 HT HRG HRLL HRL HCW HCL HST HNL HTR HS HG k0 hw1 hn HLT ⊢
      rw [hnR] at HM1 HM2 HT HRT HRG HS HG k1 hw1 hnr HLT HST ⊢
      rw [hnW] at HM1 HM2 HT HRT HRG HS HG k2 hw1 hnw HLT ⊢
      obtain ⟨tR, htR⟩ : ∃ t, (trimW x0 W).rs = t := ⟨_, rfl⟩
      have HTRR := Lib.hid htR
      rw [htR] at HRT HTR
      have htl : tR.length = nR := by rw [HTR.out, List.length_map, hnR]
      have HTL := Lib.hid htl
      clear hnN hnR hnW htR htl
      go_enter Try.func5, Try.ntmps5
      go_wp2_with fail
      refine HLT.out.mono ?_
      rintro e w2 ⟨rfl, hb2⟩
      have HS2 := Lib.hid (HS.out.later hb2)
      obtain ⟨d0, d1, d2⟩ := HS2.out.cells
      clear hb2 k0 k1 k2
      go_wp2_with fail
      refine (HM1.out _ HS2.out.g).mono ?_
      rintro e w3 ⟨rfl, hb3⟩
      have HS3 := Lib.hid (HS2.out.later hb3)
      obtain ⟨e0, e1, e2⟩ := HS3.out.cells
      clear hb3 d0 d1 d2
      go_wp2_with fail
      refine (HT.out _ HS3.out.g).mono ?_
      rintro e w4 ⟨AT, cT, BT, dT, CT, eT, rfl, hgt, hb4⟩
      have HS4 := Lib.hid (HS3.out.later hb4)
      have HS5 := Lib.hid (HS4.out.later ((Below.refl w4.heap.size w4).alloc (Nat.le_refl _) (.cells #[.slice AT W.length cT, .slice BT nR dT, .slice CT nW eT] 25)))
      have HSX : Hid (St w4 (w4.alloc (.cells #[.slice AT W.length cT, .slice BT nR dT, .slice CT nW eT] 25)) w4.heap.size AT W.length cT BT nR dT CT nW eT (trimW x0 W)) := Lib.hid (St.start hgt)
      obtain ⟨f0, f1, f2⟩ := HS5.out.cells
      obtain ⟨g0, g1, g2⟩ := HSX.out.cells
      have HRT2 : Hid (Rd w4 BT tR) := Lib.hid (by
        have hg' := hgt
        obtain ⟨_, _, BT', _, _, _, e, _, _, _, _, hr, _⟩ := hg'
        injection e with e
        injection e with e
        injection e with _ e
        injection e with e _
        injection e with e
        rw [e, ← HTRR.out]
        exact hr)
      clear hgt hb4 e0 e1 e2
      go_wp2_with fail
      refine (HM2.out _ _ _ _ _ _ _ HSX.out.g).mono ?_
      rintro e w6 ⟨rfl, hb6⟩
      have HS6 := Lib.hid (HS5.out.later hb6)
      have HSY := Lib.hid (HSX.out.later hb6)
      obtain ⟨l0, l1, l2⟩ := HS6.out.cells
      obtain ⟨m0, m1, m2⟩ := HSY.out.cells
      have n1 : ((W.length : Int) != (W.length : Int)) = false := by rw [bne_eq_false_iff_eq]
      have HRT6 := Lib.hid (HRT2.out.below HSY.out.b.block)
      clear f0 f1 f2 g0 g1 g2 hb6
      go_wp2_with fail
      refine (HRT.out _ _ _ _ _ _ _ HSY.out.g HRT6.out).mono ?_
      rintro e w7 ⟨A7, c7, rfl, hba, hb7⟩
      have HBA := Lib.hid hba
      have HS7 := Lib.hid (HS6.out.later hb7)
      have HSZ := Lib.hid (HSY.out.later hb7)
      obtain ⟨o0, o1, o2⟩ := HS7.out.cells
      clear l0 l1 l2 m0 m1 m2 hb7 hba
      go_wp2
      go_loop [49] (fun i => ∃ t : Nat, t ≤ W.length ∧ i = .int .i64 (t : Int)) (fun i => W.length - (intOf i).toNat)
      case atStart => exact ⟨0, Nat.zero_le _, rfl⟩
      case round =>
        obtain ⟨t, ht, rfl⟩ := hrel
        by_cases hlt : t < W.length
        · obtain ⟨ad, rfl, hc⟩ := HBA.out t (by rw [List.length_replicate]; exact hlt)
          rw [List.getD_eq_getElem?_getD, List.getElem?_replicate, if_pos hlt] at hc
          simp only [Option.getD_some] at hc
          clear o0 o1 o2
          go_wp2
          go_round
          case rel => exact ⟨t + 1, by omega, by go_num⟩
          case measure => simp [intOf]; omega
        · obtain rfl : W.length = t := by omega
          go_wp2_with fail
          refine (HRG.out _ HS7.out.g (HRS.out.below HS7.out.b.block)).mono ?_
          rintro e w8 ⟨A8, c8, rfl, hbg, hb8⟩
          have HBG := Lib.hid hbg
          have HS8 := Lib.hid (HS7.out.later hb8)
          have HSW := Lib.hid (HSZ.out.later hb8)
          obtain ⟨p0, p1, p2⟩ := HS8.out.cells
          obtain ⟨q0, q1, q2⟩ := HSW.out.cells
          clear o0 o1 o2 hb8 hbg
          go_wp2
          go_loop [6, 61] (fun s i => ∃ t : Nat, t ≤ nN ∧ i = .int .i64 (t : Int) ∧ s = .int .i64 (cnt t W : Int)) (fun _ i => nN - (intOf i).toNat)
          case atStart => exact ⟨0, Nat.zero_le _, rfl, rfl⟩
          case round =>
            obtain ⟨t, ht, rfl, rfl⟩ := hrel
            by_cases hlt2 : t < nN
            · obtain ⟨ad, rfl, hc⟩ := HBG.out t (by rw [HRLL.out]; exact hlt2)
              rw [HRL.out t hlt2] at hc
              have hcl := cnt_le t W
              have hcs := cnt_succ t W
              by_cases hin : (t : Int) ∈ W
              · rw [decide_eq_true hin] at hc
                rw [if_pos hin] at hcs
                have HCS := Lib.hid hcs
                have s1 : IntKind.i64.wrap ((cnt t W : Int) + 1) = ((cnt t W : Int) + 1) := by rw [Go.IntWalk.i64_in _ (by omega)]
                obtain ⟨q, hq⟩ : ∃ q, cnt t W = q := ⟨_, rfl⟩
                rw [hq] at HCS s1 ⊢
                clear hin hcs hcl hq
                go_wp2
                go_round
                case rel => exact ⟨t + 1, by omega, by go_num, by rw [HCS.out]; first | rfl | (rw [s1]; rfl)⟩
                case measure => simp [intOf]; omega
              · rw [decide_eq_false hin] at hc
                rw [if_neg hin] at hcs
                have HCS := Lib.hid hcs
                clear hin hcs hcl
                go_wp2
                go_round
                case rel => exact ⟨t + 1, by omega, by go_num, by rw [HCS.out]; rfl⟩
                case measure => simp [intOf]; omega
            · obtain rfl : nN = t := by omega
              rw [HCW.out]
              have z0 : nxt x0 0 = 0 := by unfold nxt; simp [adds]
              have HRT8 := Lib.hid (HRT2.out.below HSW.out.b.block)
              have HRS8 := Lib.hid (HRS.out.below HS8.out.b.block)
              go_wp2
              go_loop [9, 72] (fun s i => ∃ t : Nat, t ≤ nR ∧ i = .int .i64 (t : Int) ∧ s = .int .i64 (nxt x0 t : Int)) (fun _ i => nR - (intOf i).toNat)
              case atStart => exact ⟨0, Nat.zero_le _, rfl, by rw [z0]; rfl⟩
              case round =>
                obtain ⟨t, ht, rfl, rfl⟩ := hrel
                by_cases hlt3 : t < nR
                · obtain ⟨ad, rfl, hc⟩ := HRT8.out t (by rw [HTL.out]; exact hlt3)
                  obtain ⟨ad2, rfl, hd⟩ := HRS8.out t (by rw [HNR.out]; exact hlt3)
                  have hst := HST.out t hlt3
                  have hnl := HNL.out t
                  have e1 : tR.getD t 0 = To.mv (placeL nN W) (x0.rs.getD t 0) := by
                    rw [HTR.out, List.getD_eq_getElem?_getD, List.getElem?_map, List.getElem?_eq_getElem (show t < x0.rs.length by rw [HNR.out]; exact hlt3), List.getD_eq_getElem?_getD, List.getElem?_eq_getElem (show t < x0.rs.length by rw [HNR.out]; exact hlt3)]
                    rfl
                  rw [e1] at hc
                  obtain ⟨r, hr⟩ : ∃ r, To.mv (placeL nN W) (x0.rs.getD t 0) = r := ⟨_, rfl⟩
                  rw [hr] at hc hst
                  obtain ⟨s, hs⟩ : ∃ s, x0.rs.getD t 0 = s := ⟨_, rfl⟩
                  rw [hs] at hd hst
                  obtain ⟨q, hq⟩ : ∃ q, nxt x0 t = q := ⟨_, rfl⟩
                  rw [hq] at hst hnl ⊢
                  clear e1 hr hs hq
                  rcases hst with ⟨h1, h2, h3⟩ | ⟨h1, h2, h4, h3⟩ | ⟨h1, h2, h3⟩
                  · have H3 := Lib.hid h3
                    have t1 : (r == (q : Int)) = false := by rw [beq_eq_false_iff_ne]; omega
                    have t2 : ¬ ((q : Int) < r) := by omega
                    clear h3
                    go_wp2
                    go_round
                    case rel => exact ⟨t + 1, by omega, by go_num, by rw [H3.out]⟩
                    case measure => simp [intOf]; omega
                  · have H3 := Lib.hid h3
                    have t1 : (r == (q : Int)) = false := by rw [beq_eq_false_iff_ne]; omega
                    have t2 : ¬ ((q : Int) < r) := by omega
                    have t3 : ¬ (r < 0) := by omega
                    have t4 : ¬ (s < 0) := by omega
                    clear h3
                    go_wp2
                    go_round
                    case rel => exact ⟨t + 1, by omega, by go_num, by rw [H3.out]⟩
                    case measure => simp [intOf]; omega
                  · subst h2
                    have t3 : ¬ ((q : Int) < 0) := by omega
                    have t4 : ¬ (s < 0) := by omega
                    have H3 := Lib.hid h3
                    have s1 : IntKind.i64.wrap ((q : Int) + 1) = ((q : Int) + 1) := by rw [Go.IntWalk.i64_in _ (by omega)]
                    clear h3
                    go_wp2
                    go_round
                    case rel => exact ⟨t + 1, by omega, by go_num, by rw [H3.out]; first | rfl | (rw [s1]; rfl)⟩
                    case measure => simp [intOf]; omega
                · obtain rfl : nR = t := by omega
                  go_wp2_with fail
                  refine (Aw.awake_any _).mono ?_
                  rintro e w9 ⟨rfl, hb9⟩
                  have HS9 := Lib.hid (HS8.out.later hb9)
                  go_wp2
                  go_ret
                  exact ⟨rfl, HS9.out.b⟩

theorem own : ownKnob Try.prog.godebug = none := by kernel_rfl
theorem laidOut : laidOutB Try.prog = true := by kernel_rfl
set_option maxRecDepth 100000 in
theorem lifted (os : Os) (started : os.Started) (H : Type) (enc : TypeId × Value → H) :
    ReturnsInHanded {} Try.checked os 5 .any (Rows.graphTrimmedSpec.pre6 enc Try.prog Try.f5 Rows.graphTrimmedRow.domain false) (Rows.graphTrimmedSpec.post enc Try.prog Try.f5 false true false false) := by
  refine returnsInHanded_of_change (C := Try.checked) own started (by kernel_rfl) Try.func5
    (ChangeSpec.witness6 (enc := enc) (C := Try.checked) false ⟨#[], #[.agg #[.slice none 0 0, .slice none 0 0, .slice none 0 0]], []⟩ 8 (by kernel_rfl) (by kernel_rfl) (by kernel_rfl) (by kernel_rfl)) ?_
  intro W base args ds gs before hval0 hW hcnd _
  have hval : ∀ (j : Nat) t v, Try.f5.params[j]? = some t → args[j]? = some v → Value.okWide Try.prog W .any base t v := hval0
  have hW' := hW
  obtain ⟨p, q, hA0, hV, rfl, hfz, hnd⟩ := hW
  have hA : DataW.TrodAll enc Try.prog W 0 (fun _ => true) true Try.f5.params.toList args.toList ds p := hA0
  rw [Try.params5] at hA hval
  obtain ⟨v0, vs0, d0, ds0, p0, q0, hargs, rfl, rfl, h0, r0⟩ := trodAll_cons hA
  obtain ⟨rfl, rfl, rfl⟩ := trodAll_nil r0
  obtain rfl : args = #[v0] := by cases args; simp_all
  obtain ⟨rfl, rfl⟩ := trodVars_none hV
  have k0 := h0
  have lt0 : ∀ x ∈ p0, x.block < W.heap.size := by obtain ⟨m, hm⟩ := k0; exact DataW.trod_lt m _ _ _ hm
  obtain ⟨fuel0, hf0⟩ := h0
  obtain ⟨x0, hk0, ok0⟩ := (Ba.opens_g3) H enc W 0 _ _ _ _ _ hf0
  have hg0 := Ba.gat_of (hval 0 25 v0 rfl rfl) hk0
  clear hA0 hval0
  refine (walk W _ x0 hg0 ok0).mono fun e W' ⟨he, bel⟩ => ?_
  subst he
  exact ⟨_, rfl, _, _, _, [], _, [], hW', trodAll_mk1 (shut_bool Try.underlying4 _), (trodAll_cons_mk (Below.trod laidOut (by kernel_rfl) (of_decide_eq_true (by kernel_rfl)) k0 bel lt0) trodAll_mk0), rfl, bel.frame _, fun h => by cases h⟩
theorem over : Rows.graphTrimmedRow.holds Try.pinned (OpenSpec.ofChange Rows.graphTrimmedSpec) :=
  OpenClaim.holds_of_wide 5 Try.f5 rfl rfl rfl rfl rfl rfl rfl ⟨rfl, rfl, rfl, rfl, rfl⟩ rfl rfl rfl rfl rfl (by kernel_rfl) Try.func5 (by kernel_rfl)
    (of_decide_eq_true (by kernel_rfl)) (by unfold Func.isWrapper; first | (rw [if_pos (by decide +kernel)]; kernel_rfl) | (rw [if_neg (by decide +kernel)]; exact ⟨rfl, rfl⟩))
    (fun os started H enc _ => lifted os started H enc)
theorem proved : Rows.GraphTrimmedSaid := over
#print axioms proved
end Go.Proofs.Ytdgclpgjoanimaa.graphTrimmed
