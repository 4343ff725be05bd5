/-
  A number, a complex number, a reference, laid as a field's words and read, is the number that it was.
-/
import Derived.Test.YtacfddlclbelmaaDoorRows
import Derived.WalkKit
import Derived.WalkSpells
import Derived.WalkLawsBesides
import Derived.WalkMore
import Derived.ProofKit
import Derived.OpenShut
import Derived.ShutString
import Derived.ChangeOld
import Derived.Below
import Derived.SizedLaws
import Derived.Lib.Hide
import Derived.Test.YtacfddlclbelmaaDoorOpen
import Derived.Test.YtacfddlclbelmaaDoorVt
import Derived.Test.YtacfddlclbelmaaDoorTie
import Derived.Test.YtacfddlclbelmaaDoorCards
import Derived.SevenTiedAt
import Derived.Test.YtacfddlclbelmaaDoorVe
namespace Go.Proofs.YtacfddlclbelmaaDoor.valueNumbers
open Go.RowKit Go.ChangeShapes Go.WideShapes Go.ChangeAt Go.Proofs.YtacfddlclbelmaaDoorW.PrintWords
set_option linter.unusedVariables false
open Go.Proofs.YtacfddlclbelmaaDoor.Ba Go.Proofs.YtacfddlclbelmaaDoor.Va Go.Proofs.YtacfddlclbelmaaDoor.Vb Go.Proofs.YtacfddlclbelmaaDoor.Vc Go.Proofs.YtacfddlclbelmaaDoor.Vd Go.Proofs.YtacfddlclbelmaaDoor.Ve
set_option maxHeartbeats 8000000
set_option maxRecDepth 100000
theorem mod40 (m : Int) : ∃ d : Nat, d < 1099511627776 ∧ wrap64 ((IntKind.u64.wrap m).tmod 1099511627776) = (d : Int) := by
  have h2 : 0 ≤ m % 18446744073709551616 := Int.emod_nonneg _ (by omega)
  rw [IntKind.wrap_u64, Int.tmod_eq_emod_of_nonneg h2]
  refine ⟨(m % 18446744073709551616 % 1099511627776).toNat, by omega, ?_⟩
  unfold wrap64
  omega
theorem int_ag (n : Int) (w : World) : Calls Tryd.prog 17 #[.int .i64 n] w fun e w' => e = .returned (.agg #[.int .i64 1, .int .i64 n, .int .u64 0, .int .u64 0, .int .i64 0]) ∧ Below w.heap.size w w' := int_any n w
theorem ref_ag (n : Int) (w : World) : Calls Tryd.prog 20 #[.int .i64 n] w fun e w' => e = .returned (.agg #[.int .i64 3, .int .i64 0, .int .u64 0, .int .u64 0, .int .i64 n]) ∧ Below w.heap.size w w' := ref_any n w
theorem num_is (a b : Nat) (w : World) : Calls Tryd.prog 21 #[.agg #[.int .i64 2, .int .i64 0, .int .u64 (a : Int), .int .u64 (b : Int), .int .i64 0]] w fun e w' => e = .returned (.tuple #[.complex .f64 a b, .bool true]) ∧ Below w.heap.size w w' := num_any 2 0 a b 0 w
theorem walk (w : World) (HT0 : Vp.Tab w) (a0 : Int) (w0 : (Lit.int .i64 a0).wf = true) (a1 : Int) (w1 : (Lit.int .u64 a1).wf = true) (a2 : Int) (w2 : (Lit.int .u64 a2).wf = true) (a3 : Int) (w3 : (Lit.int .i64 a3).wf = true) :
    Calls Tryd.prog 5 #[.int .i64 a0, .int .u64 a1, .int .u64 a2, .int .i64 a3] w fun e w' => e = .returned (.bool true) ∧ Below w.heap.size w w' := by
  obtain ⟨n1, rfl, hn1⟩ := u64_nat w1
  obtain ⟨n2, rfl, hn2⟩ := u64_nat w2
  obtain ⟨d, hd, hdm⟩ := mod40 a3
  have hz := hz24'
  have HT := Lib.hid HT0
  have HWD : Hid (wordsV 3 ⟨3, 0, 0, 0, (d : Int)⟩ = some [(d : Int) + 1]) := Lib.hid (by unfold wordsV; rw [if_neg (by omega), if_neg (by omega), if_neg (by simp), if_pos ⟨rfl, rfl, by simp, by show (d : Int) ≤ _; omega⟩])
  have HDW : Hid ((Lit.int .i64 (d : Int)).wf = true) := Lib.hid (Go.WalkArith.wf_i64 ⟨by omega, by omega⟩)
  have HO1 : Hid (ofV 1 [IntKind.u64.wrap a0] = some ⟨1, a0, 0, 0, 0⟩) := Lib.hid (by simp [ofV, back64 w0])
  have HO2 : Hid (ofV 2 [(n1 : Int), (n2 : Int)] = some ⟨2, 0, (n1 : Int), (n2 : Int), 0⟩) := Lib.hid (by simp [ofV])
  have HO3 : Hid (ofV 3 [(d : Int) + 1] = some ⟨3, 0, 0, 0, (d : Int)⟩) := Lib.hid (by unfold ofV; rw [if_neg (by omega), if_neg (by omega), if_neg (by simp; omega), if_pos ⟨rfl, rfl, by show (d : Int) + 1 ≤ _; omega⟩]; simp)
  have HL1 : Hid (∀ x ∈ [IntKind.u64.wrap a0], 0 ≤ x ∧ x < 18446744073709551616) := Lib.hid (by intro x hx; rw [List.mem_singleton.1 hx, IntKind.wrap_u64]; omega)
  have HL2 : Hid (∀ x ∈ [(n1 : Int), (n2 : Int)], 0 ≤ x ∧ x < 18446744073709551616) := Lib.hid (by intro x hx; simp only [List.mem_cons, List.not_mem_nil, or_false] at hx; omega)
  have HL3 : Hid (∀ x ∈ [(d : Int) + 1], 0 ≤ x ∧ x < 18446744073709551616) := Lib.hid (by intro x hx; rw [List.mem_singleton.1 hx]; omega)
  clear HT0 w0 w1 w2 w3
  go_enter Tryd.func5, Tryd.ntmps5
  go_wp2_with fail
  refine (int_ag _ _).mono ?_
  rintro e w1 ⟨rfl, hbn⟩
  have HB1 := Lib.hid (hbn)
  clear hbn
  go_wp2_with fail
  refine (words_is (l := [IntKind.u64.wrap a0]) (by simp [wordsV]) (by decide) _).mono ?_
  rintro e w2 ⟨A1, c1, rfl, hc1, hr1, hbn⟩
  have HB2 := Lib.hid (HB1.out.trans (hbn.mono HB1.out.size))
  have HR1 := Lib.hid hr1
  clear hr1
  clear hbn
  dsimp only [List.length_cons, List.length_nil] at hc1 ⊢
  go_wp2_with fail
  refine (of19 _ _ _).mono ?_
  rintro e wx ⟨rfl, rfl⟩
  go_wp2_with fail
  refine (complex_ag _ _ _).mono ?_
  rintro e w3 ⟨rfl, hbn⟩
  have HB3 := Lib.hid (HB2.out.trans (hbn.mono HB2.out.size))
  have HR13 := Lib.hid (HR1.out.below hbn)
  clear hbn
  go_wp2_with fail
  refine (words_is (l := [(n1 : Int), (n2 : Int)]) (by simp [wordsV]) (by decide) _).mono ?_
  rintro e w4 ⟨A2, c2, rfl, hc2, hr2, hbn⟩
  have HB4 := Lib.hid (HB3.out.trans (hbn.mono HB3.out.size))
  have HR14 := Lib.hid (HR13.out.below hbn)
  have HR2 := Lib.hid hr2
  clear hr2
  clear hbn
  dsimp only [List.length_cons, List.length_nil] at hc2 ⊢
  go_wp2_with fail
  refine (ref_ag _ _).mono ?_
  rintro e w5 ⟨rfl, hbn⟩
  have HB5 := Lib.hid (HB4.out.trans (hbn.mono HB4.out.size))
  have HR15 := Lib.hid (HR14.out.below hbn)
  have HR25 := Lib.hid (HR2.out.below hbn)
  clear hbn
  go_wp2_with fail
  refine (words_is (l := [(d : Int) + 1]) HWD.out HDW.out _).mono ?_
  rintro e w6 ⟨A3, c3, rfl, hc3, hr3, hbn⟩
  have HB6 := Lib.hid (HB5.out.trans (hbn.mono HB5.out.size))
  have HR16 := Lib.hid (HR15.out.below hbn)
  have HR26 := Lib.hid (HR25.out.below hbn)
  have HR3 := Lib.hid hr3
  clear hr3
  clear hbn
  dsimp only [List.length_cons, List.length_nil] at hc3 ⊢
  go_wp2_with fail
  refine (of_is HO1.out A1 c1 _ HR16.out HL1.out).mono ?_
  rintro e w7 ⟨rfl, hbn⟩
  have HB7 := Lib.hid (HB6.out.trans (hbn.mono HB6.out.size))
  have HR27 := Lib.hid (HR26.out.below hbn)
  have HR37 := Lib.hid (HR3.out.below hbn)
  clear hbn
  obtain ⟨w8, h1, h2, h3⟩ := Vb.stored w7 ⟨1, a0, 0, 0, 0⟩
  have HT8 := Lib.hid (there5 (x := z5) (heap_alloc_new w7 (.cells #[.int .i64 0, .int .i64 0, .int .u64 0, .int .u64 0, .int .i64 0] 24)))
  have H8 := Lib.hid h1
  have HX8 := Lib.hid h2
  have HB8 := Lib.hid (HB7.out.trans (h3.mono HB7.out.size))
  have HR28 := Lib.hid (HR27.out.below h3)
  have HR38 := Lib.hid (HR37.out.below h3)
  clear h1 h2 h3
  go_wp2_with (refine store_named (P := Tryd.prog) rfl 24 (.tmp 15) (.tmp 60) rfl w7.heap.size 0 #[.int .i64 1, .int .i64 a0, .int .u64 0, .int .u64 0, .int .i64 0] rfl rfl HT8.out infoV (one5 _ _ _ _ _) H8.out ?_)
  refine (of_is HO2.out A2 c2 _ HR28.out HL2.out).mono ?_
  rintro e w9 ⟨rfl, hbn⟩
  have HB9 := Lib.hid (HB8.out.trans (hbn.mono HB8.out.size))
  have HR39 := Lib.hid (HR38.out.below hbn)
  have HX89 := Lib.hid (blk_below HX8.out hbn)
  clear hbn
  obtain ⟨w10, h1, h2, h3⟩ := Vb.stored w9 ⟨2, 0, (n1 : Int), (n2 : Int), 0⟩
  have HT10 := Lib.hid (there5 (x := z5) (heap_alloc_new w9 (.cells #[.int .i64 0, .int .i64 0, .int .u64 0, .int .u64 0, .int .i64 0] 24)))
  have H10 := Lib.hid h1
  have HX10 := Lib.hid h2
  have HB10 := Lib.hid (HB9.out.trans (h3.mono HB9.out.size))
  have HR310 := Lib.hid (HR39.out.below h3)
  have HX810 := Lib.hid (blk_below HX89.out h3)
  clear h1 h2 h3
  go_wp2_with (refine store_named (P := Tryd.prog) rfl 24 (.tmp 17) (.tmp 65) rfl w9.heap.size 0 #[.int .i64 2, .int .i64 0, .int .u64 (n1 : Int), .int .u64 (n2 : Int), .int .i64 0] rfl rfl HT10.out infoV (one5 _ _ _ _ _) H10.out ?_)
  refine (of_is HO3.out A3 c3 _ HR310.out HL3.out).mono ?_
  rintro e w11 ⟨rfl, hbn⟩
  have HB11 := Lib.hid (HB10.out.trans (hbn.mono HB10.out.size))
  have HX811 := Lib.hid (blk_below HX810.out hbn)
  have HX1011 := Lib.hid (blk_below HX10.out hbn)
  clear hbn
  obtain ⟨r0, r1, r2, r3, r4⟩ := Bx5.cells HX1011.out
  obtain ⟨w12, h1, h2, h3⟩ := Vb.stored w11 ⟨3, 0, 0, 0, (d : Int)⟩
  have HT12 := Lib.hid (there5 (x := z5) (heap_alloc_new w11 (.cells #[.int .i64 0, .int .i64 0, .int .u64 0, .int .u64 0, .int .i64 0] 24)))
  have H12 := Lib.hid h1
  have HX12 := Lib.hid h2
  have HB12 := Lib.hid (HB11.out.trans (h3.mono HB11.out.size))
  have HX812 := Lib.hid (blk_below HX811.out h3)
  have HX1012 := Lib.hid (blk_below HX1011.out h3)
  clear h1 h2 h3
  clear r0 r1 r2 r3 r4
  obtain ⟨r0, r1, r2, r3, r4⟩ := Bx5.cells HX1012.out
  go_wp2_with (refine store_named (P := Tryd.prog) rfl 24 (.tmp 19) (.tmp 70) rfl w11.heap.size 0 #[.int .i64 3, .int .i64 0, .int .u64 0, .int .u64 0, .int .i64 (d : Int)] rfl rfl HT12.out infoV (one5 _ _ _ _ _) H12.out ?_)
  refine (num_is _ _ _).mono ?_
  rintro e w13 ⟨rfl, hbn⟩
  have HB13 := Lib.hid (HB12.out.trans (hbn.mono HB12.out.size))
  have HX813 := Lib.hid (blk_below HX812.out hbn)
  have HX1213 := Lib.hid (blk_below HX12.out hbn)
  clear hbn
  clear r0 r1 r2 r3 r4
  obtain ⟨q0, q1, q2, q3, q4⟩ := Bx5.cells HX813.out
  obtain ⟨r0, r1, r2, r3, r4⟩ := Bx5.cells HX1213.out
  have bb : (a0 == a0) = true := by simp
  have bd : ((d : Int) == (d : Int)) = true := by simp
  go_wp2_with (first | (go_at_call 19; refine (of19 _ _ _).mono ?_; rintro e wx ⟨rfl, rfl⟩) | (go_at_call 22; refine (same_any _ _ _ _ _).mono ?_; rintro e wx ⟨rfl, rfl⟩) | fail)
  refine (Vp.awake_any _ (HT.out.below HB13.out)).mono ?_
  rintro e w14 ⟨rfl, hb⟩
  have HB14 := Lib.hid (HB13.out.trans (hb.mono HB13.out.size))
  clear hb
  go_wp2
  go_ret
  exact ⟨rfl, HB14.out⟩

theorem own : ownKnob Tryd.prog.godebug = none := by kernel_rfl
theorem laidOut : laidOutB Tryd.prog = true := by kernel_rfl
set_option maxRecDepth 100000 in
theorem lifted (os : Os) (started : os.Started) (H : Type) (enc : TypeId × Value → H) :
    ReturnsInHanded {} Tryd.checked os 5 .any (fun w args => (Rows.valueNumbersSpec.pre enc Tryd.prog Tryd.f5 [] false w args ∧ laidMetH Tryd.prog Vt.laid w) ∧ sizedMet enc Tryd.prog Tryd.f5 (OpenSpec.ofChange Rows.valueNumbersSpec) false w args) (Rows.valueNumbersSpec.post enc Tryd.prog Tryd.f5 false true false false) := by
  refine returnsInHanded_of_change_and (C := Tryd.checked) (X := fun w _ => laidMetH Tryd.prog Vt.laid w) (fun _ _ _ hh h => h.of_heap hh) own started (by kernel_rfl) Tryd.func5
    (ChangeSpec.witness_shaped (enc := enc) (C := Tryd.checked) (os := os) (X := fun w _ => laidMetH Tryd.prog Vt.laid w) false (World.doorLaid Tryd.prog 400 os) #[.int .i64 0, .int .u64 0, .int .u64 0, .int .i64 0] 8 rfl (World.shaped_of_RefB (by kernel_rfl) (by kernel_rfl)) (by kernel_rfl) (by kernel_rfl) (by kernel_rfl) (Vt.door_met os _)) ?_
  intro W base args ds gs before hval0 hW _ _ hL _
  have hval : ∀ (j : Nat) t v, Tryd.f5.params[j]? = some t → args[j]? = some v → Value.okWide Tryd.prog W .any base t v := hval0
  have hW' := hW
  obtain ⟨p, q, hA0, hV, rfl, hfz, hnd⟩ := hW
  have hA : DataW.TrodAll enc Tryd.prog W 0 (fun _ => true) true Tryd.f5.params.toList args.toList ds p := hA0
  rw [Tryd.params5] at hA hval
  obtain ⟨v0, vs0, d0, ds0, p0, q0, hargs, rfl, rfl, h0, r0⟩ := trodAll_cons hA
  obtain ⟨v1, vs1, d1, ds1, p1, q1, rfl, rfl, rfl, h1, r1⟩ := trodAll_cons r0
  obtain ⟨v2, vs2, d2, ds2, p2, q2, rfl, rfl, rfl, h2, r2⟩ := trodAll_cons r1
  obtain ⟨v3, vs3, d3, ds3, p3, q3, rfl, rfl, rfl, h3, r3⟩ := trodAll_cons r2
  obtain ⟨rfl, rfl, rfl⟩ := trodAll_nil r3
  obtain rfl : args = #[v0, v1, v2, v3] := by cases args; simp_all
  obtain ⟨rfl, rfl⟩ := trodVars_none hV
  obtain ⟨a0, rfl, rfl, rfl, w0⟩ := open_int Tryd.underlying2 (hval 0 2 v0 rfl rfl) h0
  obtain ⟨a1, rfl, rfl, rfl, w1⟩ := open_int Tryd.underlying22 (hval 1 22 v1 rfl rfl) h1
  obtain ⟨a2, rfl, rfl, rfl, w2⟩ := open_int Tryd.underlying22 (hval 2 22 v2 rfl rfl) h2
  obtain ⟨a3, rfl, rfl, rfl, w3⟩ := open_int Tryd.underlying3 (hval 3 3 v3 rfl rfl) h3
  clear hA0 hval0
  refine (walk W (Vt.tab hL) a0 w0 a1 w1 a2 w2 a3 w3).mono fun e W' ⟨he, bel⟩ => ?_
  subst he
  exact ⟨_, rfl, _, _, _, [], _, [], hW', trodAll_mk1 (shut_bool Tryd.underlying4 _), (trodAll_cons_mk (shut_int Tryd.underlying2 w0) (trodAll_cons_mk (shut_int Tryd.underlying22 w1) (trodAll_cons_mk (shut_int Tryd.underlying22 w2) (trodAll_cons_mk (shut_int Tryd.underlying3 w3) trodAll_mk0)))), rfl, bel.frame _, fun h => by cases h⟩
theorem over : Rows.valueNumbersRow.holds Tryd.pinned (OpenSpec.ofChange Rows.valueNumbersSpec) :=
  OpenClaim.holds_of_wide 5 Tryd.f5 rfl rfl rfl rfl rfl rfl rfl ⟨rfl, rfl, rfl, rfl, rfl⟩ rfl rfl rfl rfl rfl (by kernel_rfl) Tryd.func5 (by kernel_rfl)
    (of_decide_eq_true (by kernel_rfl)) (by unfold Func.isWrapper; first | (rw [if_pos (by decide +kernel)]; kernel_rfl) | (rw [if_neg (by decide +kernel)]; exact ⟨rfl, rfl⟩))
    (fun os started H enc _ => lifted os started H enc)
theorem proved : Rows.ValueNumbersCardSaid :=
  Claim7.holds_tied_plain_at .later [] [.data, .data, .data, .sentinel, .sentinel] true (true, "c31e0e6559b74baf15febe27140eed1b2e056e84c829090b08d6d10ed788757f") true
    over (fun _ h => by cases h) (by kernel_rfl) (fun _ h => by cases h) valueNumbers_row_tie rfl ⟨rfl, rfl⟩ (by kernel_rfl) rfl
    (fun f fn hf hfn => by
      obtain rfl : f = 5 := Option.some.inj ((show Tryd.prog.funcNamed "scullion/scullionlaw10.ValueNumbers" = some 5 by kernel_rfl).symm.trans hf) |>.symm
      obtain rfl : fn = Tryd.f5 := (Option.some.inj (Tryd.func5.symm.trans hfn)).symm
      exact ⟨by kernel_rfl, fun j t ht => by
        rw [Tryd.params5] at ht
        have hm : t ∈ [2, 22, 22, 3] := by simpa using Array.mem_of_getElem? ht
        have hall : ([2, 22, 22, 3].all fun u => !Tryd.prog.wantsStandIn u) = true := by kernel_rfl
        exact (show Tryd.prog.wantsStandIn t = false by simpa using List.all_eq_true.1 hall t hm)⟩)
    (by kernel_rfl)
#print axioms proved
end Go.Proofs.YtacfddlclbelmaaDoor.valueNumbers
