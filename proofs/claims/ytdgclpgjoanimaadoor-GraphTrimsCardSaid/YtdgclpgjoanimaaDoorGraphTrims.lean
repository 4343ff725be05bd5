/-
  Any graph, trimmed, as a text, and held against any other one for likeness, is answered as the document's own answers say.
-/
import Derived.Test.YtdgclpgjoanimaaDoorRows
import Derived.WalkKit
import Derived.WalkSpells
import Derived.WalkLawsBesides
import Derived.WalkMore
import Derived.ProofKit
import Derived.OpenShut
import Derived.ShutString
import Derived.ChangeOld
import Derived.Below
import Derived.SizedLaws
import Derived.Lib.Hide
import Derived.ChangeMaps5
import Derived.Test.YtdgclpgjoanimaaDoorOpen
import Derived.Test.YtdgclpgjoanimaaDoorVt
import Derived.Test.YtdgclpgjoanimaaDoorVs
import Derived.Test.YtdgclpgjoanimaaDoorTie
import Derived.Test.YtdgclpgjoanimaaDoorCards
import Derived.SevenTiedAt
import Derived.Test.YtdgclpgjoanimaaDoorVs
import Derived.Test.YtdgclpgjoanimaaDoorTg
import Derived.Test.YtdgclpgjoanimaaDoorAl
import Derived.Test.YtdgclpgjoanimaaDoorSm
import Derived.Test.YtdgclpgjoanimaaDoorEq
import Derived.Test.YtdgclpgjoanimaaDoorRa
import Derived.Test.YtdgclpgjoanimaaDoorRg
import Derived.Deep.RegionHeld3
import Derived.Deep.DeepMust
import Derived.Deep.CutRange
namespace Go.Proofs.YtdgclpgjoanimaaDoor.graphTrims
open Go.RowKit Go.ChangeShapes Go.WideShapes Go.ChangeAt Go.Proofs.YtdgclpgjoanimaaDoorW.PrintWords
set_option linter.unusedVariables false
open Go.Proofs.YtdgclpgjoanimaaDoorW.PrintWords Go.Proofs.YtdgclpgjoanimaaDoor.Ba Go.Proofs.YtdgclpgjoanimaaDoor.Ma Go.Proofs.YtdgclpgjoanimaaDoor.Mb Go.Proofs.YtdgclpgjoanimaaDoor.Pu Go.Proofs.YtdgclpgjoanimaaDoor.To Go.Proofs.YtdgclpgjoanimaaDoor.Tr Go.Proofs.YtdgclpgjoanimaaDoor.Eq Go.Proofs.YtdgclpgjoanimaaDoor.Ld Go.Proofs.YtdgclpgjoanimaaDoor.Hx Go.Proofs.YtdgclpgjoanimaaDoor.Tb Go.Proofs.YtdgclpgjoanimaaDoor.Tg Go.Proofs.YtdgclpgjoanimaaDoor.Ti Go.Proofs.YtdgclpgjoanimaaDoor.Ra
set_option linter.unusedSimpArgs false
set_option maxHeartbeats 16000000
set_option maxRecDepth 100000
theorem walk (w : World) (HT0 : Vn.Sn w) (v0 : Value) (x0 : Ba.G3) (hk0 : Ba.GAt w v0 x0) (ok0 : Ba.ok3 x0) (v1 : Value) (x1 : Ba.G3) (hk1 : Ba.GAt w v1 x1) (ok1 : Ba.ok3 x1) :
    Calls Tryd.prog 5 #[v0, v1] w fun e w' => e = .returned (.bool true) ∧ Below w.heap.size w w' := by
  obtain ⟨AN, cN, BN, dN, CN, fN, rfl, _⟩ := Al.ga_of hk0
  obtain ⟨AM, cM, BM, dM, CM, fM, rfl, _⟩ := Al.ga_of hk1
  have HG := Lib.hid hk0
  have HH := Lib.hid hk1
  have HO := Lib.hid ok0
  have HP := Lib.hid ok1
  obtain ⟨w1, hw1⟩ : ∃ w1, (w.alloc (.cells #[.slice AN x0.ns.length cN, .slice BN x0.rs.length dN, .slice CN x0.ws.length fN] 25)).alloc (.cells #[.slice AM x1.ns.length cM, .slice BM x1.rs.length dM, .slice CM x1.ws.length fM] 25) = w1 := ⟨_, rfl⟩
  have HB1 : Hid (Below w.heap.size w w1) := Lib.hid (by rw [← hw1]; exact ((Below.refl _ _).alloc (Nat.le_refl _) _).alloc (by simp) _)
  have HG1 : Hid (GB w1 w.heap.size (.slice AN x0.ns.length cN) (.slice BN x0.rs.length dN) (.slice CN x0.ws.length fN) x0) := Lib.hid ⟨by rw [← hw1]; exact heap_alloc_lt _ (heap_alloc_new w _), hk0.below HB1.out⟩
  have HH1 : Hid (GB w1 (w.heap.size + 1) (.slice AM x1.ns.length cM) (.slice BM x1.rs.length dM) (.slice CM x1.ws.length fM) x1) := Lib.hid ⟨by rw [← hw1]; exact heap_at1 w _ _ _, hk1.below HB1.out⟩
  have HLG := Lib.hid (fun W (h : GAt W (.agg #[.slice AN x0.ns.length cN, .slice BN x0.rs.length dN, .slice CN x0.ws.length fN]) x0) => Re.light_any _ x0 W h ok0)
  have HLH := Lib.hid (fun W (h : GAt W (.agg #[.slice AM x1.ns.length cM, .slice BM x1.rs.length dM, .slice CM x1.ws.length fM]) x1) => Re.light_any _ x1 W h ok1)
  obtain ⟨g0, g1, g2⟩ := HG1.out.cells
  obtain ⟨h0, h1, h2⟩ := HH1.out.cells
  have HSN := Lib.hid HT0
  clear hk0 hk1 ok0 ok1 HT0
  cases e0 : Re.lightG x0
  · rw [e0] at HLG
    clear e0
    go_enter Tryd.func5, Tryd.ntmps5
    go_wp2_with fail
    refine (HLG.out _ HG1.out.g).mono ?_
    rintro e w2 ⟨rfl, hb2⟩
    have HB2 := Lib.hid (HB1.out.trans (hb2.mono HB1.out.size))
    have HG2 := Lib.hid (HG1.out.later hb2)
    have HH2 := Lib.hid (HH1.out.later hb2)
    clear hb2 g0 g1 g2 h0 h1 h2
    obtain ⟨g0, g1, g2⟩ := HG2.out.cells
    obtain ⟨h0, h1, h2⟩ := HH2.out.cells
    go_wp2_with fail
    refine (Aw.awake_any _).mono ?_
    rintro e wz ⟨rfl, hbz⟩
    have HBz := Lib.hid (HB2.out.trans (hbz.mono HB2.out.size))
    clear hbz
    go_wp2
    go_ret
    exact ⟨rfl, HBz.out⟩
  rw [e0] at HLG
  cases e1 : Re.lightG x1
  · rw [e1] at HLH
    clear e1
    go_enter Tryd.func5, Tryd.ntmps5
    go_wp2_with fail
    refine (HLG.out _ HG1.out.g).mono ?_
    rintro e w2 ⟨rfl, hb2⟩
    have HB2 := Lib.hid (HB1.out.trans (hb2.mono HB1.out.size))
    have HG2 := Lib.hid (HG1.out.later hb2)
    have HH2 := Lib.hid (HH1.out.later hb2)
    clear hb2 g0 g1 g2 h0 h1 h2
    obtain ⟨g0, g1, g2⟩ := HG2.out.cells
    obtain ⟨h0, h1, h2⟩ := HH2.out.cells
    go_wp2_with fail
    refine (HLH.out _ HH2.out.g).mono ?_
    rintro e w3 ⟨rfl, hb3⟩
    have HB3 := Lib.hid (HB2.out.trans (hb3.mono HB2.out.size))
    have HG3 := Lib.hid (HG2.out.later hb3)
    have HH3 := Lib.hid (HH2.out.later hb3)
    clear hb3 g0 g1 g2 h0 h1 h2
    obtain ⟨g0, g1, g2⟩ := HG3.out.cells
    obtain ⟨h0, h1, h2⟩ := HH3.out.cells
    go_wp2_with fail
    refine (Aw.awake_any _).mono ?_
    rintro e wz ⟨rfl, hbz⟩
    have HBz := Lib.hid (HB3.out.trans (hbz.mono HB3.out.size))
    clear hbz
    go_wp2
    go_ret
    exact ⟨rfl, HBz.out⟩
  rw [e1] at HLH
  have HZ0 := Lib.hid (Re.light_sz e0)
  have HZ1 := Lib.hid (Re.light_sz e1)
  have HTR : Hid (∀ v W, GAt W v x0 → Calls Tryd.prog 9 #[v] W (TrimPost x0 W)) := Lib.hid (fun v W h => Tm.trim_any v x0 W h HZ0.out)
  have HTS : Hid (∀ v W, GAt W v x0 → Calls Tryd.prog 14 #[v] W (TrimPost x0 W)) := Lib.hid (fun v W h => Rt.rtrim_any v x0 W h HZ0.out)
  have HSM : Hid (∀ u v W, GAt W u (trimL x0) → GAt W v (trimL x0) → Calls Tryd.prog 13 #[u, v] W (BoolPost true W)) := Lib.hid (fun u v W h1 h2 => by
    have := Sg.gs_any u v _ _ W h1 h2 trim_lenA (trim_szA HZ0.out) (trim_szA HZ0.out) trim_plA trim_plA
    rw [decide_eq_true rfl] at this
    exact this)
  obtain ⟨q0, hq0⟩ : ∃ q0 : ByteArray, (⟨(textR x0).toArray⟩ : ByteArray) = q0 := ⟨_, rfl⟩
  have HTA : Hid (∀ v W, Below w.heap.size w W → GAt W v x0 → Calls Tryd.prog 10 #[v] W (fun e w' => e = .returned (.string q0) ∧ Below W.heap.size W w')) := Lib.hid (fun v W hb h => by rw [← hq0]; exact textg_any v x0 W h HZ0.out HO.out (HSN.out.below hb).t)
  have HTB : Hid (∀ v W, Below w.heap.size w W → GAt W v x0 → Calls Tryd.prog 15 #[v] W (fun e w' => e = .returned (.string q0) ∧ Below W.heap.size W w')) := Lib.hid (fun v W hb h => by rw [← hq0]; exact Rg.rtextg_any v x0 W h HZ0.out HO.out (HSN.out.below hb))
  have heq : (q0.toList == q0.toList) = true := by simp
  have hal : ∀ u v W, GAt W u x0 → GAt W v x1 → Calls Tryd.prog 11 #[u, v] W (BoolPost (alikeB x0 x1) W) := fun u v W h1 h2 => Al.alike_any u v x0 x1 W h1 h2 HZ0.out HZ1.out
  have har : ∀ u v W, GAt W u x0 → GAt W v x1 → Calls Tryd.prog 16 #[u, v] W (BoolPost (alikeB x0 x1) W) := fun u v W h1 h2 => ralike_any u v x0 x1 W h1 h2 HZ0.out HZ1.out
  obtain ⟨m, hm⟩ : ∃ m, alikeB x0 x1 = m := ⟨_, rfl⟩
  rw [hm] at hal har
  have HAL := Lib.hid hal
  have HAR := Lib.hid har
  clear hal har hm hq0 e0 e1
  go_enter Tryd.func5, Tryd.ntmps5
  go_wp2_with fail
  refine (HLG.out _ HG1.out.g).mono ?_
  rintro e w2 ⟨rfl, hb2⟩
  have HB2 := Lib.hid (HB1.out.trans (hb2.mono HB1.out.size))
  have HG2 := Lib.hid (HG1.out.later hb2)
  have HH2 := Lib.hid (HH1.out.later hb2)
  clear hb2 g0 g1 g2 h0 h1 h2
  obtain ⟨g0, g1, g2⟩ := HG2.out.cells
  obtain ⟨h0, h1, h2⟩ := HH2.out.cells
  go_wp2_with fail
  refine (HLH.out _ HH2.out.g).mono ?_
  rintro e w3 ⟨rfl, hb3⟩
  have HB3 := Lib.hid (HB2.out.trans (hb3.mono HB2.out.size))
  have HG3 := Lib.hid (HG2.out.later hb3)
  have HH3 := Lib.hid (HH2.out.later hb3)
  clear hb3 g0 g1 g2 h0 h1 h2
  obtain ⟨g0, g1, g2⟩ := HG3.out.cells
  obtain ⟨h0, h1, h2⟩ := HH3.out.cells
  have hdr := (Below.refl w3.heap.size w3).drew
  have HBd := Lib.hid (HB3.out.drew)
  have HGd := Lib.hid (HG3.out.later hdr)
  have HHd := Lib.hid (HH3.out.later hdr)
  clear hdr
  obtain ⟨g0', g1', g2'⟩ := HG3.out.cells
  obtain ⟨h0', h1', h2'⟩ := HH3.out.cells
  obtain ⟨g0, g1, g2⟩ := HGd.out.cells
  obtain ⟨h0, h1, h2⟩ := HHd.out.cells
  cases m
  all_goals
    go_upto_region 3 with fail
    go_region_held3 (fun w' => w'.cell? ⟨w.heap.size, 0, none⟩ = some (.slice AN x0.ns.length cN) ∧ w'.cell? ⟨w.heap.size, 1, none⟩ = some (.slice BN x0.rs.length dN) ∧ w'.cell? ⟨w.heap.size, 2, none⟩ = some (.slice CN x0.ws.length fN) ∧ w'.cell? ⟨w.heap.size + 1, 0, none⟩ = some (.slice AM x1.ns.length cM) ∧ w'.cell? ⟨w.heap.size + 1, 1, none⟩ = some (.slice BM x1.rs.length dM) ∧ w'.cell? ⟨w.heap.size + 1, 2, none⟩ = some (.slice CM x1.ws.length fM))
      (first | ((try dsimp only); refine ⟨?_, ?_, ?_, ?_, ?_, ?_⟩ <;> (with_reducible assumption)) | fail)
      (first
      | (go_at_call 9; (with_reducible show Calls _ _ _ w3.drew _); go_must (refine (HTR.out _ _ HGd.out.g).mono ?_; rintro e v1 ⟨vt, rfl, hgt, hb⟩; have HBv1 := Lib.hid (HBd.out.trans (hb.mono HBd.out.size)); have HGv1 := Lib.hid (HGd.out.later hb); have HHv1 := Lib.hid (HHd.out.later hb); have HVT := Lib.hid hgt; clear hgt; clear hb; obtain ⟨g0, g1, g2⟩ := HGv1.out.cells; obtain ⟨h0, h1, h2⟩ := HHv1.out.cells))
      | (go_at_call 14; (with_reducible show Calls _ _ _ v1 _); go_must (refine (HTS.out _ _ HGv1.out.g).mono ?_; rintro e v2 ⟨vu, rfl, hgt, hb⟩; have HBv2 := Lib.hid (HBv1.out.trans (hb.mono HBv1.out.size)); have HGv2 := Lib.hid (HGv1.out.later hb); have HHv2 := Lib.hid (HHv1.out.later hb); have HVU := Lib.hid hgt; have HVT2 := Lib.hid (HVT.out.below hb); clear hgt; clear hb; obtain ⟨g0, g1, g2⟩ := HGv2.out.cells; obtain ⟨h0, h1, h2⟩ := HHv2.out.cells))
      | (go_at_call 13; (with_reducible show Calls _ _ _ v2 _); go_must (refine (HSM.out _ _ _ HVT2.out HVU.out).mono ?_; rintro e v3 ⟨rfl, hb⟩; have HBv3 := Lib.hid (HBv2.out.trans (hb.mono HBv2.out.size)); have HGv3 := Lib.hid (HGv2.out.later hb); have HHv3 := Lib.hid (HHv2.out.later hb); clear hb; obtain ⟨g0, g1, g2⟩ := HGv3.out.cells; obtain ⟨h0, h1, h2⟩ := HHv3.out.cells))
      | (go_at_call 10; (with_reducible show Calls _ _ _ v3 _); go_must (refine (HTA.out _ _ HBv3.out HGv3.out.g).mono ?_; rintro e v4 ⟨rfl, hb⟩; have HBv4 := Lib.hid (HBv3.out.trans (hb.mono HBv3.out.size)); have HGv4 := Lib.hid (HGv3.out.later hb); have HHv4 := Lib.hid (HHv3.out.later hb); clear hb; obtain ⟨g0, g1, g2⟩ := HGv4.out.cells; obtain ⟨h0, h1, h2⟩ := HHv4.out.cells))
      | (go_at_call 15; (with_reducible show Calls _ _ _ v4 _); go_must (refine (HTB.out _ _ HBv4.out HGv4.out.g).mono ?_; rintro e v5 ⟨rfl, hb⟩; have HBv5 := Lib.hid (HBv4.out.trans (hb.mono HBv4.out.size)); have HGv5 := Lib.hid (HGv4.out.later hb); have HHv5 := Lib.hid (HHv4.out.later hb); clear hb; obtain ⟨g0, g1, g2⟩ := HGv5.out.cells; obtain ⟨h0, h1, h2⟩ := HHv5.out.cells))
      | (go_at_call 11; (with_reducible show Calls _ _ _ v5 _); go_must (refine (HAL.out _ _ _ HGv5.out.g HHv5.out.g).mono ?_; rintro e v6 ⟨rfl, hb⟩; have HBv6 := Lib.hid (HBv5.out.trans (hb.mono HBv5.out.size)); have HGv6 := Lib.hid (HGv5.out.later hb); have HHv6 := Lib.hid (HHv5.out.later hb); clear hb; obtain ⟨g0, g1, g2⟩ := HGv6.out.cells; obtain ⟨h0, h1, h2⟩ := HHv6.out.cells))
      | (go_at_call 16; (with_reducible show Calls _ _ _ v6 _); go_must (refine (HAR.out _ _ _ HGv6.out.g HHv6.out.g).mono ?_; rintro e v7 ⟨rfl, hb⟩; have HBv7 := Lib.hid (HBv6.out.trans (hb.mono HBv6.out.size)); have HGv7 := Lib.hid (HGv6.out.later hb); have HHv7 := Lib.hid (HHv6.out.later hb); clear hb; obtain ⟨g0, g1, g2⟩ := HGv7.out.cells; obtain ⟨h0, h1, h2⟩ := HHv7.out.cells))
      | (go_at_call 8; (with_reducible show Calls _ _ _ v7 _); go_must (refine (Aw.awake_any _).mono ?_; rintro e v8 ⟨rfl, hb⟩; have HBv8 := Lib.hid (HBv7.out.trans (hb.mono HBv7.out.size)); have HGv8 := Lib.hid (HGv7.out.later hb); have HHv8 := Lib.hid (HHv7.out.later hb); clear hb; obtain ⟨g0, g1, g2⟩ := HGv8.out.cells; obtain ⟨h0, h1, h2⟩ := HHv8.out.cells))
      | fail)
    go_wp2
    go_ret
    exact ⟨rfl, HBv8.out⟩

theorem own : ownKnob Tryd.prog.godebug = none := by kernel_rfl
theorem laidOut : laidOutB Tryd.prog = true := by kernel_rfl
set_option maxRecDepth 100000 in
theorem lifted (os : Os) (started : os.Started) (H : Type) (enc : TypeId × Value → H) :
    ReturnsInHanded {} Tryd.checked os 5 .any (fun w args => (Rows.graphTrimsSpec.pre enc Tryd.prog Tryd.f5 [] false w args ∧ laidMetH Tryd.prog Vt.laid w) ∧ sizedMet enc Tryd.prog Tryd.f5 (OpenSpec.ofChange Rows.graphTrimsSpec) false w args) (Rows.graphTrimsSpec.post enc Tryd.prog Tryd.f5 false true false false) := by
  refine returnsInHanded_of_change_and (C := Tryd.checked) (X := fun w _ => laidMetH Tryd.prog Vt.laid w) (fun _ _ _ hh h => h.of_heap hh) own started (by kernel_rfl) Tryd.func5
    (ChangeSpec.witness_shaped (enc := enc) (C := Tryd.checked) (os := os) (X := fun w _ => laidMetH Tryd.prog Vt.laid w) false (World.doorLaid Tryd.prog 400 os) #[.agg #[.slice none 0 0, .slice none 0 0, .slice none 0 0], .agg #[.slice none 0 0, .slice none 0 0, .slice none 0 0]] 8 rfl (World.shaped_of_RefB (by kernel_rfl) (by kernel_rfl)) (by kernel_rfl) (by kernel_rfl) (by kernel_rfl) (Vt.door_met os _)) ?_
  intro W base args ds gs before hval0 hW _ hsz0 hL _
  have hsz : (DataW.weightsEach Tryd.prog (Tryd.f5.params.toList ++ Rows.graphTrimsSpec.plain.varTypes Tryd.prog) (ds ++ gs)).all (· ≤ reachBytes) = true := hsz0
  have hval : ∀ (j : Nat) t v, Tryd.f5.params[j]? = some t → args[j]? = some v → Value.okWide Tryd.prog W .any base t v := hval0
  have hW' := hW
  obtain ⟨p, q, hA0, hV, rfl, hfz, hnd⟩ := hW
  have hA : DataW.TrodAll enc Tryd.prog W 0 (fun _ => true) true Tryd.f5.params.toList args.toList ds p := hA0
  rw [Tryd.params5] at hA hval hsz
  obtain ⟨v0, vs0, d0, ds0, p0, q0, hargs, rfl, rfl, h0, r0⟩ := trodAll_cons hA
  obtain ⟨v1, vs1, d1, ds1, p1, q1, rfl, rfl, rfl, h1, r1⟩ := trodAll_cons r0
  obtain ⟨rfl, rfl, rfl⟩ := trodAll_nil r1
  obtain rfl : args = #[v0, v1] := by cases args; simp_all
  obtain ⟨rfl, rfl⟩ := trodVars_none hV
  have k0 := h0
  have lt0 : ∀ x ∈ p0, x.block < W.heap.size := by obtain ⟨m, hm⟩ := k0; exact DataW.trod_lt m _ _ _ hm
  obtain ⟨fuel0, hf0⟩ := h0
  obtain ⟨x0, hk0, ok0⟩ := (Ba.opens_g3) H enc W 0 _ _ _ _ _ hf0
  have hg0 := Ba.gat_of (hval 0 25 v0 rfl rfl) hk0
  have k1 := h1
  have lt1 : ∀ x ∈ p1, x.block < W.heap.size := by obtain ⟨m, hm⟩ := k1; exact DataW.trod_lt m _ _ _ hm
  obtain ⟨fuel1, hf1⟩ := h1
  obtain ⟨x1, hk1, ok1⟩ := (Ba.opens_g3) H enc W 0 _ _ _ _ _ hf1
  have hg1 := Ba.gat_of (hval 1 25 v1 rfl rfl) hk1
  clear hA0 hval0
  refine (walk W (Vs.sn hL) _ x0 hg0 ok0 _ x1 hg1 ok1).mono fun e W' ⟨he, bel⟩ => ?_
  subst he
  exact ⟨_, rfl, _, _, _, [], _, [], hW', trodAll_mk1 (shut_bool Tryd.underlying4 _), (trodAll_cons_mk (Below.trod laidOut (by kernel_rfl) (of_decide_eq_true (by kernel_rfl)) k0 bel lt0) (trodAll_cons_mk (Below.trod laidOut (by kernel_rfl) (of_decide_eq_true (by kernel_rfl)) k1 bel lt1) trodAll_mk0)), rfl, bel.frame _, fun h => by cases h⟩
theorem over : Rows.graphTrimsRow.holds Tryd.pinned (OpenSpec.ofChange Rows.graphTrimsSpec) :=
  OpenClaim.holds_of_wide 5 Tryd.f5 rfl rfl rfl rfl rfl rfl rfl ⟨rfl, rfl, rfl, rfl, rfl⟩ rfl rfl rfl rfl rfl (by kernel_rfl) Tryd.func5 (by kernel_rfl)
    (of_decide_eq_true (by kernel_rfl)) (by unfold Func.isWrapper; first | (rw [if_pos (by decide +kernel)]; kernel_rfl) | (rw [if_neg (by decide +kernel)]; exact ⟨rfl, rfl⟩))
    (fun os started H enc _ => lifted os started H enc)
theorem proved : Rows.GraphTrimsCardSaid :=
  Claim7.holds_tied_plain_at .later [] [.data, .data, .data] true (true, "d175cb7290e215640c6c7df098eae224166e15dd4f9b8138b6d90375831efef9") false
    over (fun _ h => by cases h) (by kernel_rfl) (fun _ h => by cases h) graphTrims_row_tie rfl ⟨rfl, rfl⟩ (by kernel_rfl) rfl
    (fun f fn hf hfn => by
      obtain rfl : f = 5 := Option.some.inj ((show Tryd.prog.funcNamed "scullion/scullionlaw12.GraphTrims" = some 5 by kernel_rfl).symm.trans hf) |>.symm
      obtain rfl : fn = Tryd.f5 := (Option.some.inj (Tryd.func5.symm.trans hfn)).symm
      exact ⟨by kernel_rfl, fun j t ht => by
        rw [Tryd.params5] at ht
        have hm : t ∈ [25, 25] := by simpa using Array.mem_of_getElem? ht
        have hall : ([25, 25].all fun u => !Tryd.prog.wantsStandIn u) = true := by kernel_rfl
        exact (show Tryd.prog.wantsStandIn t = false by simpa using List.all_eq_true.1 hall t hm)⟩)
    (by kernel_rfl)
#print axioms proved
end Go.Proofs.YtdgclpgjoanimaaDoor.graphTrims
