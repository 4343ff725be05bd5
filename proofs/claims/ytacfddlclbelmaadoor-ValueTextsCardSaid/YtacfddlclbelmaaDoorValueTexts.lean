/-
  Any value as a text, any text as a value.
-/
import Derived.Test.YtacfddlclbelmaaDoorRows
import Derived.WalkKit
import Derived.WalkSpells
import Derived.WalkLawsBesides
import Derived.WalkMore
import Derived.ProofKit
import Derived.OpenShut
import Derived.ShutString
import Derived.ChangeOld
import Derived.Below
import Derived.SizedLaws
import Derived.Lib.Hide
import Derived.ChangeMaps5
import Derived.Test.YtacfddlclbelmaaDoorOpen
import Derived.Test.YtacfddlclbelmaaDoorVt
import Derived.Test.YtacfddlclbelmaaDoorVs
import Derived.Test.YtacfddlclbelmaaDoorTie
import Derived.Test.YtacfddlclbelmaaDoorCards
import Derived.SevenTiedAt
import Derived.Test.YtacfddlclbelmaaDoorVe
import Derived.Test.YtacfddlclbelmaaDoorVz
import Derived.Deep.RegionHeld3
namespace Go.Proofs.YtacfddlclbelmaaDoor.valueTexts
open Go.RowKit Go.ChangeShapes Go.WideShapes Go.ChangeAt Go.Proofs.YtacfddlclbelmaaDoorW.PrintWords
set_option linter.unusedVariables false
open Go.Proofs.YtacfddlclbelmaaDoor.Ba Go.Proofs.YtacfddlclbelmaaDoor.Va Go.Proofs.YtacfddlclbelmaaDoor.Vb Go.Proofs.YtacfddlclbelmaaDoor.Vc Go.Proofs.YtacfddlclbelmaaDoor.Vd Go.Proofs.YtacfddlclbelmaaDoor.Ve Go.Proofs.YtacfddlclbelmaaDoor.Vx Go.Proofs.YtacfddlclbelmaaDoor.Vz
set_option maxHeartbeats 8000000
set_option maxRecDepth 100000
theorem wf_of {v : V5} (h : ok5 v) : Wf v := by
  obtain ⟨_, h1, h2, h3, h4⟩ := h
  have a := i64_bd h1
  have b := u64_bd h2
  have c := u64_bd h3
  have d := i64_bd h4
  exact ⟨a.1, a.2, b.1, b.2, c.1, c.2, d.1, d.2⟩
theorem vsame_is {a1 a2 a3 a4 a5 b1 b2 b3 b4 b5 : Int} {r : Bool} (h : sameV ⟨a1, a2, a3, a4, a5⟩ ⟨b1, b2, b3, b4, b5⟩ = r) (w : World) : Calls Tryd.prog 15 #[.agg #[.int .i64 a1, .int .i64 a2, .int .u64 a3, .int .u64 a4, .int .i64 a5], .agg #[.int .i64 b1, .int .i64 b2, .int .u64 b3, .int .u64 b4, .int .i64 b5]] w fun e w' => e = .returned (.bool r) ∧ Below w.heap.size w w' := by
  have := samev_any a1 a2 a3 a4 a5 b1 b2 b3 b4 b5 w
  rw [h] at this
  exact this
theorem walk (w : World) (HT0 : Vn.Sn w) (x0 : Ba.V5) (hk0 : Ba.k5.K w x0 (Ba.agg5 x0).cells.toList) (ok0 : Ba.ok5 x0) (s1 : ByteArray) (w1 : s1.size ≤ 281474976710656) :
    Calls Tryd.prog 7 #[Ba.agg5 x0, .string s1] w fun e w' => e = .returned (.bool true) ∧ Below w.heap.size w w' := by
  obtain ⟨b1, b2, b3, b4, b5⟩ := x0
  obtain ⟨op, hop⟩ := sh_any s1
  obtain ⟨⟨o1, o2, o3, o4, o5⟩, ho⟩ : ∃ o : V5, op.getD ⟨0, 0, 0, 0, 0⟩ = o := ⟨_, rfl⟩
  obtain ⟨ob, hob⟩ : ∃ b, op.isSome = b := ⟨_, rfl⟩
  have HSM : Hid (sameV ⟨o1, o2, o3, o4, o5⟩ ⟨o1, o2, o3, o4, o5⟩ = true) := Lib.hid (by
    rw [← ho]
    cases op with
    | none => rfl
    | some v => exact same_self (sh_kd hop))
  have HP1 := Lib.hid (fun (W : World) (h : Vn.Sn W) => parse25 s1 w1 op hop W h)
  have HP2 := Lib.hid (fun (W : World) (h : Vn.Sn W) => rparse26 s1 w1 op hop W h)
  unfold PPost agg5 at HP1 HP2
  rw [ho, hob] at HP1 HP2
  dsimp only at HP1 HP2
  have HWF := Lib.hid (wf_of ok0)
  have TX1 := Lib.hid (fun (W : World) (h : Vn.Sn W) => text_any' b1 b2 b3 b4 b5 W HWF.out h.t)
  have TX2 := Lib.hid (fun (W : World) (h : Vn.Sn W) => rtext28 b1 b2 b3 b4 b5 W HWF.out h)
  obtain ⟨ta, hta⟩ : ∃ ta : ByteArray, (⟨(textV ⟨b1, b2, b3, b4, b5⟩).toArray⟩ : ByteArray) = ta := ⟨_, rfl⟩
  rw [hta] at TX1 TX2
  have SMV := Lib.hid (fun (W : World) => vsame_is HSM.out W)
  have tt : (ta.toList == ta.toList) = true := by simp
  have bb : (ob == ob) = true := by simp
  have HT := Lib.hid HT0
  clear hta ho hob hop ok0 hk0 HT0 w1
  have hz := hz24'
  have HB0 := Lib.hid (bel_one w (.cells #[.int .i64 b1, .int .i64 b2, .int .u64 b3, .int .u64 b4, .int .i64 b5] 24))
  have HX0 := Lib.hid (show Bx5 (w.alloc (.cells #[.int .i64 b1, .int .i64 b2, .int .u64 b3, .int .u64 b4, .int .i64 b5] 24)) w.heap.size ⟨b1, b2, b3, b4, b5⟩ from heap_alloc_new w _)
  obtain ⟨w0, hw0⟩ : ∃ w0, w.alloc (.cells #[.int .i64 b1, .int .i64 b2, .int .u64 b3, .int .u64 b4, .int .i64 b5] 24) = w0 := ⟨_, rfl⟩
  rw [hw0] at HB0 HX0
  have HT0 := Lib.hid (HT.out.below HB0.out)
  unfold agg5
  dsimp only
  go_enter Tryd.func7, Tryd.ntmps7
  go_wp2_with fail
  refine (HP1.out _ HT0.out).mono ?_
  rintro e w2 ⟨rfl, hbn⟩
  have HB2 := Lib.hid (HB0.out.trans (hbn.mono HB0.out.size))
  have HX2 := Lib.hid (blk_below HX0.out hbn)
  have HT2 := Lib.hid (HT0.out.below hbn)
  clear hbn
  obtain ⟨w3, h1, h2, h3⟩ := Vb.stored w2 ⟨o1, o2, o3, o4, o5⟩
  have HN3 := Lib.hid (there5 (x := z5) (heap_alloc_new w2 (.cells #[.int .i64 0, .int .i64 0, .int .u64 0, .int .u64 0, .int .i64 0] 24)))
  have H3 := Lib.hid h1
  have HY3 := Lib.hid h2
  have HB3 := Lib.hid (HB2.out.trans (h3.mono HB2.out.size))
  have HX3 := Lib.hid (blk_below HX2.out h3)
  have HT3 := Lib.hid (HT2.out.below h3)
  clear h1 h2 h3
  go_wp2_with (first | (refine store_named (P := Tryd.prog) rfl 24 (.tmp 5) (.tmp 12) rfl w2.heap.size 0 #[.int .i64 o1, .int .i64 o2, .int .u64 o3, .int .u64 o4, .int .i64 o5] rfl rfl HN3.out infoV (one5 _ _ _ _ _) H3.out ?_) | fail)
  refine (HP2.out _ HT3.out).mono ?_
  rintro e w4 ⟨rfl, hbn⟩
  have HB4 := Lib.hid (HB3.out.trans (hbn.mono HB3.out.size))
  have HX4 := Lib.hid (blk_below HX3.out hbn)
  have HY4 := Lib.hid (blk_below HY3.out hbn)
  have HT4 := Lib.hid (HT3.out.below hbn)
  clear hbn
  obtain ⟨w5, h1, h2, h3⟩ := Vb.stored w4 ⟨o1, o2, o3, o4, o5⟩
  have HN5 := Lib.hid (there5 (x := z5) (heap_alloc_new w4 (.cells #[.int .i64 0, .int .i64 0, .int .u64 0, .int .u64 0, .int .i64 0] 24)))
  have H5 := Lib.hid h1
  have HZ5 := Lib.hid h2
  have hbd := (Below.refl w5.heap.size w5).drew
  have HB6 := Lib.hid ((HB4.out.trans (h3.mono HB4.out.size)).drew)
  have HX6 := Lib.hid (blk_below (blk_below HX4.out h3) hbd)
  have HY6 := Lib.hid (blk_below (blk_below HY4.out h3) hbd)
  have HZ6 := Lib.hid (blk_below HZ5.out hbd)
  have HT6 := Lib.hid ((HT4.out.below h3).below hbd)
  clear h1 h2 h3 hbd
  go_wp2_with (first | (refine store_named (P := Tryd.prog) rfl 24 (.tmp 7) (.tmp 17) rfl w4.heap.size 0 #[.int .i64 o1, .int .i64 o2, .int .u64 o3, .int .u64 o4, .int .i64 o5] rfl rfl HN5.out infoV (one5 _ _ _ _ _) H5.out ?_) | fail)
  obtain ⟨q0, q1, q2, q3, q4⟩ := Bx5.cells HX6.out
  obtain ⟨r0, r1, r2, r3, r4⟩ := Bx5.cells HY6.out
  obtain ⟨u0, u1, u2, u3, u4⟩ := Bx5.cells HZ6.out
  go_region_held3 (fun w' => w'.cell? ⟨w.heap.size, 0, none⟩ = some (.int .i64 b1) ∧ w'.cell? ⟨w.heap.size, 1, none⟩ = some (.int .i64 b2) ∧ w'.cell? ⟨w.heap.size, 2, none⟩ = some (.int .u64 b3) ∧ w'.cell? ⟨w.heap.size, 3, none⟩ = some (.int .u64 b4) ∧ w'.cell? ⟨w.heap.size, 4, none⟩ = some (.int .i64 b5) ∧ w'.cell? ⟨w2.heap.size, 0, none⟩ = some (.int .i64 o1) ∧ w'.cell? ⟨w2.heap.size, 1, none⟩ = some (.int .i64 o2) ∧ w'.cell? ⟨w2.heap.size, 2, none⟩ = some (.int .u64 o3) ∧ w'.cell? ⟨w2.heap.size, 3, none⟩ = some (.int .u64 o4) ∧ w'.cell? ⟨w2.heap.size, 4, none⟩ = some (.int .i64 o5) ∧ w'.cell? ⟨w4.heap.size, 0, none⟩ = some (.int .i64 o1) ∧ w'.cell? ⟨w4.heap.size, 1, none⟩ = some (.int .i64 o2) ∧ w'.cell? ⟨w4.heap.size, 2, none⟩ = some (.int .u64 o3) ∧ w'.cell? ⟨w4.heap.size, 3, none⟩ = some (.int .u64 o4) ∧ w'.cell? ⟨w4.heap.size, 4, none⟩ = some (.int .i64 o5))
    (first | ((try dsimp only); refine ⟨?_, ?_, ?_, ?_, ?_, ?_, ?_, ?_, ?_, ?_, ?_, ?_, ?_, ?_, ?_⟩ <;> assumption) | fail)
    (first
    | (go_at_call 27; (with_reducible show Calls _ _ _ w5.drew _); go_must (refine (TX1.out _ HT6.out).mono ?_; rintro e w7 ⟨rfl, hb7⟩; have HB7 := Lib.hid (HB6.out.trans (hb7.mono HB6.out.size)); have HX7 := Lib.hid (blk_below HX6.out hb7); have HY7 := Lib.hid (blk_below HY6.out hb7); have HZ7 := Lib.hid (blk_below HZ6.out hb7); have HT7 := Lib.hid (HT6.out.below hb7); obtain ⟨q0, q1, q2, q3, q4⟩ := Bx5.cells HX7.out; obtain ⟨r0, r1, r2, r3, r4⟩ := Bx5.cells HY7.out; obtain ⟨u0, u1, u2, u3, u4⟩ := Bx5.cells HZ7.out))
    | (go_at_call 28; (with_reducible show Calls _ _ _ w7 _); go_must (refine (TX2.out _ HT7.out).mono ?_; rintro e w8 ⟨rfl, hb8⟩; have HB8 := Lib.hid (HB7.out.trans (hb8.mono HB7.out.size)); have HX8 := Lib.hid (blk_below HX7.out hb8); have HY8 := Lib.hid (blk_below HY7.out hb8); have HZ8 := Lib.hid (blk_below HZ7.out hb8); have HT8 := Lib.hid (HT7.out.below hb8); obtain ⟨q0, q1, q2, q3, q4⟩ := Bx5.cells HX8.out; obtain ⟨r0, r1, r2, r3, r4⟩ := Bx5.cells HY8.out; obtain ⟨u0, u1, u2, u3, u4⟩ := Bx5.cells HZ8.out))
    | (go_at_call 15; (with_reducible show Calls _ _ _ w8 _); go_must (refine (SMV.out _).mono ?_; rintro e w9 ⟨rfl, hb9⟩; have HB9 := Lib.hid (HB8.out.trans (hb9.mono HB8.out.size)); have HX9 := Lib.hid (blk_below HX8.out hb9); have HY9 := Lib.hid (blk_below HY8.out hb9); have HZ9 := Lib.hid (blk_below HZ8.out hb9); have HT9 := Lib.hid (HT8.out.below hb9); obtain ⟨q0, q1, q2, q3, q4⟩ := Bx5.cells HX9.out; obtain ⟨r0, r1, r2, r3, r4⟩ := Bx5.cells HY9.out; obtain ⟨u0, u1, u2, u3, u4⟩ := Bx5.cells HZ9.out))
    | (go_at_call 16; (with_reducible show Calls _ _ _ w9 _); go_must (refine (Vp.awake_any _ HT9.out.t).mono ?_; rintro e w10 ⟨rfl, hb10⟩; have HB10 := Lib.hid (HB9.out.trans (hb10.mono HB9.out.size)); have HX10 := Lib.hid (blk_below HX9.out hb10); have HY10 := Lib.hid (blk_below HY9.out hb10); have HZ10 := Lib.hid (blk_below HZ9.out hb10); have HT10 := Lib.hid (HT9.out.below hb10); obtain ⟨q0, q1, q2, q3, q4⟩ := Bx5.cells HX10.out; obtain ⟨r0, r1, r2, r3, r4⟩ := Bx5.cells HY10.out; obtain ⟨u0, u1, u2, u3, u4⟩ := Bx5.cells HZ10.out))
    | fail)
  all_goals
    go_wp2
    go_ret
    exact ⟨rfl, HB10.out⟩

theorem own : ownKnob Tryd.prog.godebug = none := by kernel_rfl
theorem laidOut : laidOutB Tryd.prog = true := by kernel_rfl
set_option maxRecDepth 100000 in
theorem lifted (os : Os) (started : os.Started) (H : Type) (enc : TypeId × Value → H) :
    ReturnsInHanded {} Tryd.checked os 7 .any (fun w args => (Rows.valueTextsSpec.pre enc Tryd.prog Tryd.f7 [] false w args ∧ laidMetH Tryd.prog Vt.laid w) ∧ sizedMet enc Tryd.prog Tryd.f7 (OpenSpec.ofChange Rows.valueTextsSpec) false w args) (Rows.valueTextsSpec.post enc Tryd.prog Tryd.f7 false true false false) := by
  refine returnsInHanded_of_change_and (C := Tryd.checked) (X := fun w _ => laidMetH Tryd.prog Vt.laid w) (fun _ _ _ hh h => h.of_heap hh) own started (by kernel_rfl) Tryd.func7
    (ChangeSpec.witness_shaped (enc := enc) (C := Tryd.checked) (os := os) (X := fun w _ => laidMetH Tryd.prog Vt.laid w) false (World.doorLaid Tryd.prog 400 os) #[.agg #[.int .i64 0, .int .i64 0, .int .u64 0, .int .u64 0, .int .i64 0], .string ⟨#[]⟩] 8 rfl (World.shaped_of_RefB (by kernel_rfl) (by kernel_rfl)) (by kernel_rfl) (by kernel_rfl) (by kernel_rfl) (Vt.door_met os _)) ?_
  intro W base args ds gs before hval0 hW _ hsz0 hL _
  have hsz : (DataW.weightsEach Tryd.prog (Tryd.f7.params.toList ++ Rows.valueTextsSpec.plain.varTypes Tryd.prog) (ds ++ gs)).all (· ≤ reachBytes) = true := hsz0
  have hval : ∀ (j : Nat) t v, Tryd.f7.params[j]? = some t → args[j]? = some v → Value.okWide Tryd.prog W .any base t v := hval0
  have hW' := hW
  obtain ⟨p, q, hA0, hV, rfl, hfz, hnd⟩ := hW
  have hA : DataW.TrodAll enc Tryd.prog W 0 (fun _ => true) true Tryd.f7.params.toList args.toList ds p := hA0
  rw [Tryd.params7] at hA hval hsz
  obtain ⟨v0, vs0, d0, ds0, p0, q0, hargs, rfl, rfl, h0, r0⟩ := trodAll_cons hA
  obtain ⟨v1, vs1, d1, ds1, p1, q1, rfl, rfl, rfl, h1, r1⟩ := trodAll_cons r0
  obtain ⟨rfl, rfl, rfl⟩ := trodAll_nil r1
  obtain rfl : args = #[v0, v1] := by cases args; simp_all
  obtain ⟨rfl, rfl⟩ := trodVars_none hV
  have k0 := h0
  have lt0 : ∀ x ∈ p0, x.block < W.heap.size := by obtain ⟨m, hm⟩ := k0; exact DataW.trod_lt m _ _ _ hm
  obtain ⟨fuel0, hf0⟩ := h0
  obtain ⟨x0, hk0, ok0⟩ := (Ba.opens_v5) H enc W 0 _ _ _ _ _ hf0
  obtain rfl : v0 = Ba.agg5 x0 := Ba.agg5_of (hval 0 24 v0 rfl rfl) hk0
  obtain ⟨s1, rfl, rfl, rfl, w1⟩ := Go.ChangeMaps.open_string Tryd.underlying9 (hval 1 9 v1 rfl rfl) h1
  have hz1 : s1.size ≤ 281474976710656 := by
    have h1 := sized_string hsz (j := 1) (t := 9) rfl rfl
    have h2 := reachBytes_lt
    have h3 : s1.data.toList.length = s1.size := by simp
    omega
  clear hA0 hval0
  refine (walk W (Vs.sn hL) x0 hk0 ok0 s1 hz1).mono fun e W' ⟨he, bel⟩ => ?_
  subst he
  exact ⟨_, rfl, _, _, _, [], _, [], hW', trodAll_mk1 (shut_bool Tryd.underlying4 _), (trodAll_cons_mk (Below.trod laidOut (by kernel_rfl) (of_decide_eq_true (by kernel_rfl)) k0 bel lt0) (trodAll_cons_mk (Go.ChangeMaps.shut_string Tryd.underlying9 w1) trodAll_mk0)), rfl, bel.frame _, fun h => by cases h⟩
theorem over : Rows.valueTextsRow.holds Tryd.pinned (OpenSpec.ofChange Rows.valueTextsSpec) :=
  OpenClaim.holds_of_wide 7 Tryd.f7 rfl rfl rfl rfl rfl rfl rfl ⟨rfl, rfl, rfl, rfl, rfl⟩ rfl rfl rfl rfl rfl (by kernel_rfl) Tryd.func7 (by kernel_rfl)
    (of_decide_eq_true (by kernel_rfl)) (by unfold Func.isWrapper; first | (rw [if_pos (by decide +kernel)]; kernel_rfl) | (rw [if_neg (by decide +kernel)]; exact ⟨rfl, rfl⟩))
    (fun os started H enc _ => lifted os started H enc)
theorem proved : Rows.ValueTextsCardSaid :=
  Claim7.holds_tied_plain_at .later [] [.data, .data, .data, .sentinel, .sentinel] true (true, "c31e0e6559b74baf15febe27140eed1b2e056e84c829090b08d6d10ed788757f") true
    over (fun _ h => by cases h) (by kernel_rfl) (fun _ h => by cases h) valueTexts_row_tie rfl ⟨rfl, rfl⟩ (by kernel_rfl) rfl
    (fun f fn hf hfn => by
      obtain rfl : f = 7 := Option.some.inj ((show Tryd.prog.funcNamed "scullion/scullionlaw10.ValueTexts" = some 7 by kernel_rfl).symm.trans hf) |>.symm
      obtain rfl : fn = Tryd.f7 := (Option.some.inj (Tryd.func7.symm.trans hfn)).symm
      exact ⟨by kernel_rfl, fun j t ht => by
        rw [Tryd.params7] at ht
        have hm : t ∈ [24, 9] := by simpa using Array.mem_of_getElem? ht
        have hall : ([24, 9].all fun u => !Tryd.prog.wantsStandIn u) = true := by kernel_rfl
        exact (show Tryd.prog.wantsStandIn t = false by simpa using List.all_eq_true.1 hall t hm)⟩)
    (by kernel_rfl)
#print axioms proved
end Go.Proofs.YtacfddlclbelmaaDoor.valueTexts
