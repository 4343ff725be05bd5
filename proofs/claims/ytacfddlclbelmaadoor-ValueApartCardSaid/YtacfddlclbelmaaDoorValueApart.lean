/-
  Two values have one text just if they are the same.
-/
import Derived.Test.YtacfddlclbelmaaDoorRows
import Derived.WalkKit
import Derived.WalkSpells
import Derived.WalkLawsBesides
import Derived.WalkMore
import Derived.ProofKit
import Derived.OpenShut
import Derived.ShutString
import Derived.ChangeOld
import Derived.Below
import Derived.SizedLaws
import Derived.Lib.Hide
import Derived.Test.YtacfddlclbelmaaDoorOpen
import Derived.Test.YtacfddlclbelmaaDoorVt
import Derived.Test.YtacfddlclbelmaaDoorTie
import Derived.Test.YtacfddlclbelmaaDoorCards
import Derived.SevenTiedAt
import Derived.Test.YtacfddlclbelmaaDoorVe
import Derived.Test.YtacfddlclbelmaaDoorVy
import Derived.Deep.RegionHeld3
namespace Go.Proofs.YtacfddlclbelmaaDoor.valueApart
open Go.RowKit Go.ChangeShapes Go.WideShapes Go.ChangeAt Go.Proofs.YtacfddlclbelmaaDoorW.PrintWords
set_option linter.unusedVariables false
open Go.Proofs.YtacfddlclbelmaaDoor.Ba Go.Proofs.YtacfddlclbelmaaDoor.Va Go.Proofs.YtacfddlclbelmaaDoor.Vb Go.Proofs.YtacfddlclbelmaaDoor.Vc Go.Proofs.YtacfddlclbelmaaDoor.Vd Go.Proofs.YtacfddlclbelmaaDoor.Ve Go.Proofs.YtacfddlclbelmaaDoor.Vx Go.Proofs.YtacfddlclbelmaaDoor.Vy
set_option maxHeartbeats 8000000
set_option maxRecDepth 100000
theorem wf_of {v : V5} (h : ok5 v) : Wf v := by
  obtain ⟨_, h1, h2, h3, h4⟩ := h
  have a := i64_bd h1
  have b := u64_bd h2
  have c := u64_bd h3
  have d := i64_bd h4
  exact ⟨a.1, a.2, b.1, b.2, c.1, c.2, d.1, d.2⟩
theorem vsame_is {a1 a2 a3 a4 a5 b1 b2 b3 b4 b5 : Int} {r : Bool} (h : sameV ⟨a1, a2, a3, a4, a5⟩ ⟨b1, b2, b3, b4, b5⟩ = r) (w : World) : Calls Tryd.prog 24 #[.agg #[.int .i64 a1, .int .i64 a2, .int .u64 a3, .int .u64 a4, .int .i64 a5], .agg #[.int .i64 b1, .int .i64 b2, .int .u64 b3, .int .u64 b4, .int .i64 b5]] w fun e w' => e = .returned (.bool r) ∧ Below w.heap.size w w' := by
  have := vsame_any a1 a2 a3 a4 a5 b1 b2 b3 b4 b5 w
  rw [h] at this
  exact this
theorem plain_is {kd n re im ref a b c d f : Int} (hk : kd = 0 ∨ kd = 1 ∨ kd = 2 ∨ kd = 3) (hp : plainV ⟨kd, n, re, im, ref⟩ = ⟨a, b, c, d, f⟩) (w : World) : Calls Tryd.prog 29 #[.agg #[.int .i64 kd, .int .i64 n, .int .u64 re, .int .u64 im, .int .i64 ref]] w fun e w' => e = .returned (.agg #[.int .i64 a, .int .i64 b, .int .u64 c, .int .u64 d, .int .i64 f]) ∧ Below w.heap.size w w' := by
  have := plain_any kd n re im ref hk w
  rw [hp] at this
  exact this
theorem walk (w : World) (HT0 : Vp.Tab w) (x0 : Ba.V5) (hk0 : Ba.k5.K w x0 (Ba.agg5 x0).cells.toList) (ok0 : Ba.ok5 x0) (x1 : Ba.V5) (hk1 : Ba.k5.K w x1 (Ba.agg5 x1).cells.toList) (ok1 : Ba.ok5 x1) :
    Calls Tryd.prog 8 #[Ba.agg5 x0, Ba.agg5 x1] w fun e w' => e = .returned (.bool true) ∧ Below w.heap.size w w' := by
  obtain ⟨b1, b2, b3, b4, b5⟩ := x0
  obtain ⟨d1, d2, d3, d4, d5⟩ := x1
  have HWA := Lib.hid (wf_of ok0)
  have HWB := Lib.hid (wf_of ok1)
  have HT := Lib.hid HT0
  clear HT0 hk0 hk1 ok0 ok1
  have hz := hz24'
  have HB0 := Lib.hid (bel_one w (.cells #[.int .i64 b1, .int .i64 b2, .int .u64 b3, .int .u64 b4, .int .i64 b5] 24))
  have HX0 := Lib.hid (show Bx5 (w.alloc (.cells #[.int .i64 b1, .int .i64 b2, .int .u64 b3, .int .u64 b4, .int .i64 b5] 24)) w.heap.size ⟨b1, b2, b3, b4, b5⟩ from heap_alloc_new w _)
  obtain ⟨w0, hw0⟩ : ∃ w0, w.alloc (.cells #[.int .i64 b1, .int .i64 b2, .int .u64 b3, .int .u64 b4, .int .i64 b5] 24) = w0 := ⟨_, rfl⟩
  rw [hw0] at HB0 HX0
  have hb1 := bel_one w0 (.cells #[.int .i64 d1, .int .i64 d2, .int .u64 d3, .int .u64 d4, .int .i64 d5] 24)
  have HY1 := Lib.hid (show Bx5 (w0.alloc (.cells #[.int .i64 d1, .int .i64 d2, .int .u64 d3, .int .u64 d4, .int .i64 d5] 24)) w0.heap.size ⟨d1, d2, d3, d4, d5⟩ from heap_alloc_new w0 _)
  obtain ⟨w1, hw1⟩ : ∃ w1, w0.alloc (.cells #[.int .i64 d1, .int .i64 d2, .int .u64 d3, .int .u64 d4, .int .i64 d5] 24) = w1 := ⟨_, rfl⟩
  rw [hw1] at hb1 HY1
  have HX1 := Lib.hid (blk_below HX0.out hb1)
  have HB1 := Lib.hid (HB0.out.trans (hb1.mono HB0.out.size))
  have HT1 := Lib.hid (HT.out.below HB1.out)
  clear hb1
  unfold agg5
  dsimp only
  obtain ⟨q0, q1, q2, q3, q4⟩ := Bx5.cells HX1.out
  obtain ⟨r0, r1, r2, r3, r4⟩ := Bx5.cells HY1.out
  by_cases gb1_0 : b1 < 0
  · skip
    go_enter Tryd.func8, Tryd.ntmps8
    go_wp2_with fail
    refine (Vp.awake_any _ HT1.out).mono ?_
    rintro e w2 ⟨rfl, hb2⟩
    have HB2 := Lib.hid (HB1.out.trans (hb2.mono HB1.out.size))
    clear hb2
    go_wp2
    go_ret
    exact ⟨rfl, HB2.out⟩
  by_cases g3_b1 : 3 < b1
  · skip
    go_enter Tryd.func8, Tryd.ntmps8
    go_wp2_with fail
    refine (Vp.awake_any _ HT1.out).mono ?_
    rintro e w2 ⟨rfl, hb2⟩
    have HB2 := Lib.hid (HB1.out.trans (hb2.mono HB1.out.size))
    clear hb2
    go_wp2
    go_ret
    exact ⟨rfl, HB2.out⟩
  by_cases gd1_0 : d1 < 0
  · skip
    go_enter Tryd.func8, Tryd.ntmps8
    go_wp2_with fail
    refine (Vp.awake_any _ HT1.out).mono ?_
    rintro e w2 ⟨rfl, hb2⟩
    have HB2 := Lib.hid (HB1.out.trans (hb2.mono HB1.out.size))
    clear hb2
    go_wp2
    go_ret
    exact ⟨rfl, HB2.out⟩
  by_cases g3_d1 : 3 < d1
  · skip
    go_enter Tryd.func8, Tryd.ntmps8
    go_wp2_with fail
    refine (Vp.awake_any _ HT1.out).mono ?_
    rintro e w2 ⟨rfl, hb2⟩
    have HB2 := Lib.hid (HB1.out.trans (hb2.mono HB1.out.size))
    clear hb2
    go_wp2
    go_ret
    exact ⟨rfl, HB2.out⟩
  have hka : b1 = 0 ∨ b1 = 1 ∨ b1 = 2 ∨ b1 = 3 := by omega
  have hkb : d1 = 0 ∨ d1 = 1 ∨ d1 = 2 ∨ d1 = 3 := by omega
  have HKA := Lib.hid hka
  have HKB := Lib.hid hkb
  have TXA := Lib.hid (fun (W : World) (h : Vp.Tab W) => text_any' b1 b2 b3 b4 b5 W HWA.out h)
  have TXB := Lib.hid (fun (W : World) (h : Vp.Tab W) => text_any' d1 d2 d3 d4 d5 W HWB.out h)
  have hbq := text_beq (a := ⟨b1, b2, b3, b4, b5⟩) (b := ⟨d1, d2, d3, d4, d5⟩) hka hkb HWA.out HWB.out
  have hsy := same_symm ⟨b1, b2, b3, b4, b5⟩ ⟨d1, d2, d3, d4, d5⟩
  have hsp := same_plain (v := ⟨b1, b2, b3, b4, b5⟩) hka
  obtain ⟨⟨p1, p2, p3, p4, p5⟩, hpl⟩ : ∃ p, plainV ⟨b1, b2, b3, b4, b5⟩ = p := ⟨_, rfl⟩
  rw [hpl] at hsp
  have PLA := Lib.hid (fun (W : World) => plain_is HKA.out hpl W)
  obtain ⟨s, hs⟩ : ∃ s, sameV ⟨b1, b2, b3, b4, b5⟩ ⟨d1, d2, d3, d4, d5⟩ = s := ⟨_, rfl⟩
  rw [hs] at hbq hsy
  have SAB := Lib.hid (fun (W : World) => vsame_is hs W)
  have SBA := Lib.hid (fun (W : World) => vsame_is hsy W)
  have SAP := Lib.hid (fun (W : World) => vsame_is hsp W)
  obtain ⟨ta, hta⟩ : ∃ ta : ByteArray, (⟨(textV ⟨b1, b2, b3, b4, b5⟩).toArray⟩ : ByteArray) = ta := ⟨_, rfl⟩
  obtain ⟨tb, htb⟩ : ∃ tb : ByteArray, (⟨(textV ⟨d1, d2, d3, d4, d5⟩).toArray⟩ : ByteArray) = tb := ⟨_, rfl⟩
  rw [hta] at TXA hbq
  rw [htb] at TXB hbq
  have bb : ∀ b : Bool, (b == b) = true := fun b => by simp
  clear hka hkb hta htb hs hsy hsp hpl
  go_enter Tryd.func8, Tryd.ntmps8
  have hbd := (Below.refl w1.heap.size w1).drew
  have HB2 := Lib.hid (HB1.out.trans (hbd.mono HB1.out.size))
  have HX2 := Lib.hid (blk_below HX1.out hbd)
  have HY2 := Lib.hid (blk_below HY1.out hbd)
  have HT2 := Lib.hid (HT1.out.below hbd)
  clear hbd
  go_wp2
  clear q0 q1 q2 q3 q4 r0 r1 r2 r3 r4
  obtain ⟨q0, q1, q2, q3, q4⟩ := Bx5.cells HX2.out
  obtain ⟨r0, r1, r2, r3, r4⟩ := Bx5.cells HY2.out
  go_region_held3 (fun w' => w'.cell? ⟨w.heap.size, 0, none⟩ = some (.int .i64 b1) ∧ w'.cell? ⟨w.heap.size, 1, none⟩ = some (.int .i64 b2) ∧ w'.cell? ⟨w.heap.size, 2, none⟩ = some (.int .u64 b3) ∧ w'.cell? ⟨w.heap.size, 3, none⟩ = some (.int .u64 b4) ∧ w'.cell? ⟨w.heap.size, 4, none⟩ = some (.int .i64 b5) ∧ w'.cell? ⟨w0.heap.size, 0, none⟩ = some (.int .i64 d1) ∧ w'.cell? ⟨w0.heap.size, 1, none⟩ = some (.int .i64 d2) ∧ w'.cell? ⟨w0.heap.size, 2, none⟩ = some (.int .u64 d3) ∧ w'.cell? ⟨w0.heap.size, 3, none⟩ = some (.int .u64 d4) ∧ w'.cell? ⟨w0.heap.size, 4, none⟩ = some (.int .i64 d5))
    (first | ((try dsimp only); refine ⟨?_, ?_, ?_, ?_, ?_, ?_, ?_, ?_, ?_, ?_⟩ <;> assumption) | fail)
    (first
      | (go_at_call 27; (with_reducible show Calls _ _ _ w1.drew _); go_must (refine (TXA.out _ HT2.out).mono ?_; rintro e w3 ⟨rfl, hb3⟩; have HB3 := Lib.hid (HB2.out.trans (hb3.mono HB2.out.size)); have HX3 := Lib.hid (blk_below HX2.out hb3); have HY3 := Lib.hid (blk_below HY2.out hb3); have HT3 := Lib.hid (HT2.out.below hb3); obtain ⟨q0, q1, q2, q3, q4⟩ := Bx5.cells HX3.out; obtain ⟨r0, r1, r2, r3, r4⟩ := Bx5.cells HY3.out))
      | (go_at_call 27; (with_reducible show Calls _ _ _ w3 _); go_must (refine (TXB.out _ HT3.out).mono ?_; rintro e w4 ⟨rfl, hb4⟩; have HB4 := Lib.hid (HB3.out.trans (hb4.mono HB3.out.size)); have HX4 := Lib.hid (blk_below HX3.out hb4); have HY4 := Lib.hid (blk_below HY3.out hb4); have HT4 := Lib.hid (HT3.out.below hb4); obtain ⟨q0, q1, q2, q3, q4⟩ := Bx5.cells HX4.out; obtain ⟨r0, r1, r2, r3, r4⟩ := Bx5.cells HY4.out))
      | (go_at_call 24; (with_reducible show Calls _ _ _ w4 _); go_must (refine (SAB.out _).mono ?_; rintro e w5 ⟨rfl, hb5⟩; have HB5 := Lib.hid (HB4.out.trans (hb5.mono HB4.out.size)); have HX5 := Lib.hid (blk_below HX4.out hb5); have HY5 := Lib.hid (blk_below HY4.out hb5); have HT5 := Lib.hid (HT4.out.below hb5); obtain ⟨q0, q1, q2, q3, q4⟩ := Bx5.cells HX5.out; obtain ⟨r0, r1, r2, r3, r4⟩ := Bx5.cells HY5.out))
      | (go_at_call 24; (with_reducible show Calls _ _ _ w5 _); go_must (refine (SAB.out _).mono ?_; rintro e w6 ⟨rfl, hb6⟩; have HB6 := Lib.hid (HB5.out.trans (hb6.mono HB5.out.size)); have HX6 := Lib.hid (blk_below HX5.out hb6); have HY6 := Lib.hid (blk_below HY5.out hb6); have HT6 := Lib.hid (HT5.out.below hb6); obtain ⟨q0, q1, q2, q3, q4⟩ := Bx5.cells HX6.out; obtain ⟨r0, r1, r2, r3, r4⟩ := Bx5.cells HY6.out))
      | (go_at_call 24; (with_reducible show Calls _ _ _ w6 _); go_must (refine (SBA.out _).mono ?_; rintro e w7 ⟨rfl, hb7⟩; have HB7 := Lib.hid (HB6.out.trans (hb7.mono HB6.out.size)); have HX7 := Lib.hid (blk_below HX6.out hb7); have HY7 := Lib.hid (blk_below HY6.out hb7); have HT7 := Lib.hid (HT6.out.below hb7); obtain ⟨q0, q1, q2, q3, q4⟩ := Bx5.cells HX7.out; obtain ⟨r0, r1, r2, r3, r4⟩ := Bx5.cells HY7.out))
      | (go_at_call 29; (with_reducible show Calls _ _ _ w7 _); go_must (refine (PLA.out _).mono ?_; rintro e w8 ⟨rfl, hb8⟩; have HB8 := Lib.hid (HB7.out.trans (hb8.mono HB7.out.size)); have HX8 := Lib.hid (blk_below HX7.out hb8); have HY8 := Lib.hid (blk_below HY7.out hb8); have HT8 := Lib.hid (HT7.out.below hb8); obtain ⟨q0, q1, q2, q3, q4⟩ := Bx5.cells HX8.out; obtain ⟨r0, r1, r2, r3, r4⟩ := Bx5.cells HY8.out))
      | (go_at_call 24; (with_reducible show Calls _ _ _ w8 _); go_must (refine (SAP.out _).mono ?_; rintro e w9 ⟨rfl, hb9⟩; have HB9 := Lib.hid (HB8.out.trans (hb9.mono HB8.out.size)); have HX9 := Lib.hid (blk_below HX8.out hb9); have HY9 := Lib.hid (blk_below HY8.out hb9); have HT9 := Lib.hid (HT8.out.below hb9); obtain ⟨q0, q1, q2, q3, q4⟩ := Bx5.cells HX9.out; obtain ⟨r0, r1, r2, r3, r4⟩ := Bx5.cells HY9.out))
      | (go_at_call 16; (with_reducible show Calls _ _ _ w9 _); go_must (refine (Vp.awake_any _ HT9.out).mono ?_; rintro e w10 ⟨rfl, hb10⟩; have HB10 := Lib.hid (HB9.out.trans (hb10.mono HB9.out.size)); have HX10 := Lib.hid (blk_below HX9.out hb10); have HY10 := Lib.hid (blk_below HY9.out hb10); have HT10 := Lib.hid (HT9.out.below hb10); obtain ⟨q0, q1, q2, q3, q4⟩ := Bx5.cells HX10.out; obtain ⟨r0, r1, r2, r3, r4⟩ := Bx5.cells HY10.out))
      | fail)
  all_goals
    go_wp2
    go_ret
    exact ⟨rfl, HB10.out⟩

theorem own : ownKnob Tryd.prog.godebug = none := by kernel_rfl
theorem laidOut : laidOutB Tryd.prog = true := by kernel_rfl
set_option maxRecDepth 100000 in
theorem lifted (os : Os) (started : os.Started) (H : Type) (enc : TypeId × Value → H) :
    ReturnsInHanded {} Tryd.checked os 8 .any (fun w args => (Rows.valueApartSpec.pre enc Tryd.prog Tryd.f8 [] false w args ∧ laidMetH Tryd.prog Vt.laid w) ∧ sizedMet enc Tryd.prog Tryd.f8 (OpenSpec.ofChange Rows.valueApartSpec) false w args) (Rows.valueApartSpec.post enc Tryd.prog Tryd.f8 false true false false) := by
  refine returnsInHanded_of_change_and (C := Tryd.checked) (X := fun w _ => laidMetH Tryd.prog Vt.laid w) (fun _ _ _ hh h => h.of_heap hh) own started (by kernel_rfl) Tryd.func8
    (ChangeSpec.witness_shaped (enc := enc) (C := Tryd.checked) (os := os) (X := fun w _ => laidMetH Tryd.prog Vt.laid w) false (World.doorLaid Tryd.prog 400 os) #[.agg #[.int .i64 0, .int .i64 0, .int .u64 0, .int .u64 0, .int .i64 0], .agg #[.int .i64 0, .int .i64 0, .int .u64 0, .int .u64 0, .int .i64 0]] 8 rfl (World.shaped_of_RefB (by kernel_rfl) (by kernel_rfl)) (by kernel_rfl) (by kernel_rfl) (by kernel_rfl) (Vt.door_met os _)) ?_
  intro W base args ds gs before hval0 hW _ _ hL _
  have hval : ∀ (j : Nat) t v, Tryd.f8.params[j]? = some t → args[j]? = some v → Value.okWide Tryd.prog W .any base t v := hval0
  have hW' := hW
  obtain ⟨p, q, hA0, hV, rfl, hfz, hnd⟩ := hW
  have hA : DataW.TrodAll enc Tryd.prog W 0 (fun _ => true) true Tryd.f8.params.toList args.toList ds p := hA0
  rw [Tryd.params8] at hA hval
  obtain ⟨v0, vs0, d0, ds0, p0, q0, hargs, rfl, rfl, h0, r0⟩ := trodAll_cons hA
  obtain ⟨v1, vs1, d1, ds1, p1, q1, rfl, rfl, rfl, h1, r1⟩ := trodAll_cons r0
  obtain ⟨rfl, rfl, rfl⟩ := trodAll_nil r1
  obtain rfl : args = #[v0, v1] := by cases args; simp_all
  obtain ⟨rfl, rfl⟩ := trodVars_none hV
  have k0 := h0
  have lt0 : ∀ x ∈ p0, x.block < W.heap.size := by obtain ⟨m, hm⟩ := k0; exact DataW.trod_lt m _ _ _ hm
  obtain ⟨fuel0, hf0⟩ := h0
  obtain ⟨x0, hk0, ok0⟩ := (Ba.opens_v5) H enc W 0 _ _ _ _ _ hf0
  obtain rfl : v0 = Ba.agg5 x0 := Ba.agg5_of (hval 0 24 v0 rfl rfl) hk0
  have k1 := h1
  have lt1 : ∀ x ∈ p1, x.block < W.heap.size := by obtain ⟨m, hm⟩ := k1; exact DataW.trod_lt m _ _ _ hm
  obtain ⟨fuel1, hf1⟩ := h1
  obtain ⟨x1, hk1, ok1⟩ := (Ba.opens_v5) H enc W 0 _ _ _ _ _ hf1
  obtain rfl : v1 = Ba.agg5 x1 := Ba.agg5_of (hval 1 24 v1 rfl rfl) hk1
  clear hA0 hval0
  refine (walk W (Vt.tab hL) x0 hk0 ok0 x1 hk1 ok1).mono fun e W' ⟨he, bel⟩ => ?_
  subst he
  exact ⟨_, rfl, _, _, _, [], _, [], hW', trodAll_mk1 (shut_bool Tryd.underlying4 _), (trodAll_cons_mk (Below.trod laidOut (by kernel_rfl) (of_decide_eq_true (by kernel_rfl)) k0 bel lt0) (trodAll_cons_mk (Below.trod laidOut (by kernel_rfl) (of_decide_eq_true (by kernel_rfl)) k1 bel lt1) trodAll_mk0)), rfl, bel.frame _, fun h => by cases h⟩
theorem over : Rows.valueApartRow.holds Tryd.pinned (OpenSpec.ofChange Rows.valueApartSpec) :=
  OpenClaim.holds_of_wide 8 Tryd.f8 rfl rfl rfl rfl rfl rfl rfl ⟨rfl, rfl, rfl, rfl, rfl⟩ rfl rfl rfl rfl rfl (by kernel_rfl) Tryd.func8 (by kernel_rfl)
    (of_decide_eq_true (by kernel_rfl)) (by unfold Func.isWrapper; first | (rw [if_pos (by decide +kernel)]; kernel_rfl) | (rw [if_neg (by decide +kernel)]; exact ⟨rfl, rfl⟩))
    (fun os started H enc _ => lifted os started H enc)
theorem proved : Rows.ValueApartCardSaid :=
  Claim7.holds_tied_plain_at .later [] [.data, .data, .data, .sentinel, .sentinel] true (true, "c31e0e6559b74baf15febe27140eed1b2e056e84c829090b08d6d10ed788757f") true
    over (fun _ h => by cases h) (by kernel_rfl) (fun _ h => by cases h) valueApart_row_tie rfl ⟨rfl, rfl⟩ (by kernel_rfl) rfl
    (fun f fn hf hfn => by
      obtain rfl : f = 8 := Option.some.inj ((show Tryd.prog.funcNamed "scullion/scullionlaw10.ValueApart" = some 8 by kernel_rfl).symm.trans hf) |>.symm
      obtain rfl : fn = Tryd.f8 := (Option.some.inj (Tryd.func8.symm.trans hfn)).symm
      exact ⟨by kernel_rfl, fun j t ht => by
        rw [Tryd.params8] at ht
        have hm : t ∈ [24, 24] := by simpa using Array.mem_of_getElem? ht
        have hall : ([24, 24].all fun u => !Tryd.prog.wantsStandIn u) = true := by kernel_rfl
        exact (show Tryd.prog.wantsStandIn t = false by simpa using List.all_eq_true.1 hall t hm)⟩)
    (by kernel_rfl)
#print axioms proved
end Go.Proofs.YtacfddlclbelmaaDoor.valueApart
