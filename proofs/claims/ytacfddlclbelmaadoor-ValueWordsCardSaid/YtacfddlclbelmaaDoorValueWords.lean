/-
  Any value as a field's words, any words as a value.
-/
import Derived.Test.YtacfddlclbelmaaDoorRows
import Derived.WalkKit
import Derived.WalkSpells
import Derived.WalkLawsBesides
import Derived.WalkMore
import Derived.ProofKit
import Derived.OpenShut
import Derived.ShutString
import Derived.ChangeOld
import Derived.Below
import Derived.SizedLaws
import Derived.Lib.Hide
import Derived.Test.YtacfddlclbelmaaDoorOpen
import Derived.Test.YtacfddlclbelmaaDoorVt
import Derived.Test.YtacfddlclbelmaaDoorTie
import Derived.Test.YtacfddlclbelmaaDoorCards
import Derived.SevenTiedAt
import Derived.Test.YtacfddlclbelmaaDoorVd
namespace Go.Proofs.YtacfddlclbelmaaDoor.valueWords
open Go.RowKit Go.ChangeShapes Go.WideShapes Go.ChangeAt Go.Proofs.YtacfddlclbelmaaDoorW.PrintWords
set_option linter.unusedVariables false
open Go.Proofs.YtacfddlclbelmaaDoor.Ba Go.Proofs.YtacfddlclbelmaaDoor.Va Go.Proofs.YtacfddlclbelmaaDoor.Vb Go.Proofs.YtacfddlclbelmaaDoor.Vc Go.Proofs.YtacfddlclbelmaaDoor.Vd
set_option maxHeartbeats 8000000
set_option maxRecDepth 100000
theorem u64_bd {n : Int} (h : (Lit.int .u64 n).wf = true) : 0 ≤ n ∧ n < 18446744073709551616 := by
  simp [Lit.wf, IntKind.min, IntKind.max, IntKind.signed, IntKind.bits] at h
  omega
theorem same_of (k : Int) (l : List Int) : sameV ((ofV k l).getD z5) ((ofV k l).getD z5) = true := by
  unfold ofV
  split
  · simp [sameV]
  · split
    · simp [sameV]
    · split
      · simp [sameV, z5]
      · split <;> simp [sameV, z5]
theorem ru_C {w : World} {A : Option Addr} {l : List Int} (h : Kd.C (Kd.int .u64) w A l.length l) : RU w A l := by
  intro i hi
  obtain ⟨ad, e, hc⟩ := Kd.at_int h i (by omega) (by omega)
  rw [Int.toNat_natCast] at hc
  exact ⟨ad, e, hc⟩
theorem walk (w : World) (HT0 : Vp.Tab w) (a0 : Int) (w0 : (Lit.int .i64 a0).wf = true) (x1 : Ba.V5) (hk1 : Ba.k5.K w x1 (Ba.agg5 x1).cells.toList) (ok1 : Ba.ok5 x1) (A2 : Option Addr) (c2 : Nat) (x2 : List Int) (hc2 : x2.length ≤ c2) (hr2 : Kd.C (Kd.int .u64) w A2 x2.length x2) (ok2 : x2.length ≤ maxLen ∧ ∀ y ∈ x2, (Lit.int .u64 y).wf = true) :
    Calls Tryd.prog 3 #[.int .i64 a0, Ba.agg5 x1, .slice A2 x2.length c2] w fun e w' => e = .returned (.bool true) ∧ Below w.heap.size w w' := by
  obtain ⟨kd, n, re, im, ref⟩ := x1
  have HRW := Lib.hid (ru_C hr2)
  have HWB := Lib.hid (fun x hx => u64_bd (ok2.2 x hx))
  have HRF := Lib.hid ok1.2.2.2.2
  have hz := hz24'
  have HB0 := Lib.hid (bel_one w (.cells #[.int .i64 kd, .int .i64 n, .int .u64 re, .int .u64 im, .int .i64 ref] 24))
  have HX0 := Lib.hid (show Bx5 (w.alloc (.cells #[.int .i64 kd, .int .i64 n, .int .u64 re, .int .u64 im, .int .i64 ref] 24)) w.heap.size ⟨kd, n, re, im, ref⟩ from heap_alloc_new w _)
  obtain ⟨w0, hw0⟩ : ∃ w0, w.alloc (.cells #[.int .i64 kd, .int .i64 n, .int .u64 re, .int .u64 im, .int .i64 ref] 24) = w0 := ⟨_, rfl⟩
  rw [hw0] at HB0 HX0
  have HT := Lib.hid HT0
  have HOF := Lib.hid (fun (W : World) (h : RU W A2 x2) => of_any a0 A2 c2 x2 W h HWB.out)
  have HOR := Lib.hid (fun (W : World) (h : RU W A2 x2) => rof_any a0 A2 c2 x2 W h HWB.out)
  have HW1 := Lib.hid (fun (W : World) => words_any a0 kd n re im ref HRF.out W)
  have HW2 := Lib.hid (fun (W : World) => rwords_any a0 kd n re im ref HRF.out W)
  have hlen : ((wordsV a0 ⟨kd, n, re, im, ref⟩).getD []).length ≤ 100000 := by
    unfold wordsV
    split
    · simp
    · split
      · simp
      · split
        · simp
        · split <;> simp
  have HSAME := Lib.hid (same_of a0 x2)
  obtain ⟨⟨o1, o2, o3, o4, o5⟩, ho⟩ : ∃ o : V5, (ofV a0 x2).getD z5 = o := ⟨_, rfl⟩
  obtain ⟨ob, hob⟩ : ∃ ob, (ofV a0 x2).isSome = ob := ⟨_, rfl⟩
  obtain ⟨l, hl⟩ : ∃ l, (wordsV a0 ⟨kd, n, re, im, ref⟩).getD [] = l := ⟨_, rfl⟩
  obtain ⟨lb, hlb⟩ : ∃ lb, (wordsV a0 ⟨kd, n, re, im, ref⟩).isSome = lb := ⟨_, rfl⟩
  unfold WPost at HW1 HW2
  unfold OPost agg5 at HOF HOR
  rw [hl, hlb] at HW1 HW2
  rw [ho, hob] at HOF HOR
  rw [ho] at HSAME
  dsimp only at HOF HOR
  rw [hl] at hlen
  have HLEN := Lib.hid hlen
  obtain ⟨q0, q1, q2, q3, q4⟩ := Bx5.cells HX0.out
  clear hr2 ok1 ok2 hk1 HT0 ho hob hl hlb hlen
  unfold agg5
  dsimp only
  go_enter Tryd.func3, Tryd.ntmps3
  go_wp2_with fail
  refine (HW1.out _).mono ?_
  rintro e w1 ⟨A5, c5, rfl, hc5, hr5, hb1⟩
  have HB1 := Lib.hid (HB0.out.trans (hb1.mono HB0.out.size))
  have HX1 := Lib.hid (blk_below HX0.out hb1)
  have HR5 := Lib.hid hr5
  clear hb1 hr5 q0 q1 q2 q3 q4
  obtain ⟨q0, q1, q2, q3, q4⟩ := Bx5.cells HX1.out
  go_wp2_with fail
  refine (HW2.out _).mono ?_
  rintro e w2 ⟨A6, c6, rfl, hc6, hr6, hb2⟩
  have HB2 := Lib.hid (HB1.out.trans (hb2.mono HB1.out.size))
  have HR52 := Lib.hid (HR5.out.below hb2)
  have HR6 := Lib.hid hr6
  clear hb2 hr6 q0 q1 q2 q3 q4
  go_wp2_with fail
  refine (HOF.out _ (HRW.out.below HB2.out)).mono ?_
  rintro e w3 ⟨rfl, hb3⟩
  have HB3 := Lib.hid (HB2.out.trans (hb3.mono HB2.out.size))
  obtain ⟨w4, h1, h2, h3⟩ := Vb.stored w3 ⟨o1, o2, o3, o4, o5⟩
  have HT3 := Lib.hid (there5 (x := z5) (heap_alloc_new w3 (.cells #[.int .i64 0, .int .i64 0, .int .u64 0, .int .u64 0, .int .i64 0] 24)))
  have H1 := Lib.hid h1
  have HB4 := Lib.hid (HB3.out.trans (h3.mono HB3.out.size))
  have HR54 := Lib.hid ((HR52.out.below hb3).below h3)
  have HR64 := Lib.hid ((HR6.out.below hb3).below h3)
  have HX4 := Lib.hid h2
  clear hb3 h1 h2 h3
  go_wp2_with (refine store_named (P := Tryd.prog) rfl 24 (.tmp 11) (.tmp 31) rfl w3.heap.size 0 #[.int .i64 o1, .int .i64 o2, .int .u64 o3, .int .u64 o4, .int .i64 o5] rfl rfl HT3.out infoV (one5 _ _ _ _ _) H1.out ?_)
  refine (HOR.out _ (HRW.out.below HB4.out)).mono ?_
  rintro e w5 ⟨rfl, hb5⟩
  have HB5 := Lib.hid (HB4.out.trans (hb5.mono HB4.out.size))
  obtain ⟨w6, h1, h2, h3⟩ := Vb.stored w5 ⟨o1, o2, o3, o4, o5⟩
  have HT5 := Lib.hid (there5 (x := z5) (heap_alloc_new w5 (.cells #[.int .i64 0, .int .i64 0, .int .u64 0, .int .u64 0, .int .i64 0] 24)))
  have H2 := Lib.hid h1
  have HB6 := Lib.hid (HB5.out.trans (h3.mono HB5.out.size))
  have HR56 := Lib.hid ((HR54.out.below hb5).below h3)
  have HR66 := Lib.hid ((HR64.out.below hb5).below h3)
  have HX6 := Lib.hid (blk_below (blk_below HX4.out hb5) h3)
  have HY6 := Lib.hid h2
  clear hb5 h1 h2 h3
  go_wp2_with (refine store_named (P := Tryd.prog) rfl 24 (.tmp 13) (.tmp 37) rfl w5.heap.size 0 #[.int .i64 o1, .int .i64 o2, .int .u64 o3, .int .u64 o4, .int .i64 o5] rfl rfl HT5.out infoV (one5 _ _ _ _ _) H2.out ?_)
  refine (samewords_self A5 A6 c5 c6 l _ HR56.out HR66.out HLEN.out).mono ?_
  rintro e w7 ⟨rfl, hb7⟩
  have HB7 := Lib.hid (HB6.out.trans (hb7.mono HB6.out.size))
  obtain ⟨q0, q1, q2, q3, q4⟩ := Bx5.cells (blk_below HX6.out hb7)
  obtain ⟨r0, r1, r2, r3, r4⟩ := Bx5.cells (blk_below HY6.out hb7)
  clear hb7
  have bb : ∀ b : Bool, (b == b) = true := fun b => by simp
  go_wp2_with fail
  refine (samev_any o1 o2 o3 o4 o5 o1 o2 o3 o4 o5 _).mono ?_
  rintro e w8 ⟨rfl, hb8⟩
  have HB8 := Lib.hid (HB7.out.trans (hb8.mono HB7.out.size))
  clear hb8
  rw [HSAME.out]
  go_wp2_with fail
  refine (Vp.awake_any _ (HT.out.below HB8.out)).mono ?_
  rintro e w9 ⟨rfl, hb9⟩
  have HB9 := Lib.hid (HB8.out.trans (hb9.mono HB8.out.size))
  clear hb9
  go_wp2
  go_ret
  exact ⟨rfl, HB9.out⟩

theorem own : ownKnob Tryd.prog.godebug = none := by kernel_rfl
theorem laidOut : laidOutB Tryd.prog = true := by kernel_rfl
set_option maxRecDepth 100000 in
theorem lifted (os : Os) (started : os.Started) (H : Type) (enc : TypeId × Value → H) :
    ReturnsInHanded {} Tryd.checked os 3 .any (fun w args => (Rows.valueWordsSpec.pre enc Tryd.prog Tryd.f3 [] false w args ∧ laidMetH Tryd.prog Vt.laid w) ∧ sizedMet enc Tryd.prog Tryd.f3 (OpenSpec.ofChange Rows.valueWordsSpec) false w args) (Rows.valueWordsSpec.post enc Tryd.prog Tryd.f3 false true false false) := by
  refine returnsInHanded_of_change_and (C := Tryd.checked) (X := fun w _ => laidMetH Tryd.prog Vt.laid w) (fun _ _ _ hh h => h.of_heap hh) own started (by kernel_rfl) Tryd.func3
    (ChangeSpec.witness_shaped (enc := enc) (C := Tryd.checked) (os := os) (X := fun w _ => laidMetH Tryd.prog Vt.laid w) false (World.doorLaid Tryd.prog 400 os) #[.int .i64 0, .agg #[.int .i64 0, .int .i64 0, .int .u64 0, .int .u64 0, .int .i64 0], .slice none 0 0] 8 rfl (World.shaped_of_RefB (by kernel_rfl) (by kernel_rfl)) (by kernel_rfl) (by kernel_rfl) (by kernel_rfl) (Vt.door_met os _)) ?_
  intro W base args ds gs before hval0 hW _ _ hL _
  have hval : ∀ (j : Nat) t v, Tryd.f3.params[j]? = some t → args[j]? = some v → Value.okWide Tryd.prog W .any base t v := hval0
  have hW' := hW
  obtain ⟨p, q, hA0, hV, rfl, hfz, hnd⟩ := hW
  have hA : DataW.TrodAll enc Tryd.prog W 0 (fun _ => true) true Tryd.f3.params.toList args.toList ds p := hA0
  rw [Tryd.params3] at hA hval
  obtain ⟨v0, vs0, d0, ds0, p0, q0, hargs, rfl, rfl, h0, r0⟩ := trodAll_cons hA
  obtain ⟨v1, vs1, d1, ds1, p1, q1, rfl, rfl, rfl, h1, r1⟩ := trodAll_cons r0
  obtain ⟨v2, vs2, d2, ds2, p2, q2, rfl, rfl, rfl, h2, r2⟩ := trodAll_cons r1
  obtain ⟨rfl, rfl, rfl⟩ := trodAll_nil r2
  obtain rfl : args = #[v0, v1, v2] := by cases args; simp_all
  obtain ⟨rfl, rfl⟩ := trodVars_none hV
  obtain ⟨a0, rfl, rfl, rfl, w0⟩ := open_int Tryd.underlying3 (hval 0 3 v0 rfl rfl) h0
  have k1 := h1
  have lt1 : ∀ x ∈ p1, x.block < W.heap.size := by obtain ⟨m, hm⟩ := k1; exact DataW.trod_lt m _ _ _ hm
  obtain ⟨fuel1, hf1⟩ := h1
  obtain ⟨x1, hk1, ok1⟩ := (Ba.opens_v5) H enc W 0 _ _ _ _ _ hf1
  obtain rfl : v1 = Ba.agg5 x1 := Ba.agg5_of (hval 1 24 v1 rfl rfl) hk1
  obtain ⟨a2, len2, cap2, rfl⟩ := okWide_slice Tryd.underlying25 (hval 2 25 v2 rfl rfl)
  have k2 := h2
  have lt2 : ∀ x ∈ p2, x.block < W.heap.size := by obtain ⟨m, hm⟩ := k2; exact DataW.trod_lt m _ _ _ hm
  obtain ⟨fuel2, hf2⟩ := h2
  obtain ⟨x2, ⟨A2, c2, e2, hc2, hr2⟩, ok2⟩ := Op.opens_slice (n := 22) Tryd.underlying25 (by kernel_rfl) (Op.opens_int Tryd.underlying22) H enc W 0 _ _ _ _ _ hf2
  obtain ⟨rfl, rfl, rfl⟩ : a2 = A2 ∧ len2 = x2.length ∧ cap2 = c2 := by simpa [Value.cells] using e2
  clear hA0 hval0
  refine (walk W (Vt.tab hL) a0 w0 x1 hk1 ok1 _ _ x2 hc2 hr2 ok2).mono fun e W' ⟨he, bel⟩ => ?_
  subst he
  exact ⟨_, rfl, _, _, _, [], _, [], hW', trodAll_mk1 (shut_bool Tryd.underlying4 _), (trodAll_cons_mk (shut_int Tryd.underlying3 w0) (trodAll_cons_mk (Below.trod laidOut (by kernel_rfl) (of_decide_eq_true (by kernel_rfl)) k1 bel lt1) (trodAll_cons_mk (Below.trod laidOut (by kernel_rfl) (of_decide_eq_true (by kernel_rfl)) k2 bel lt2) trodAll_mk0))), rfl, bel.frame _, fun h => by cases h⟩
theorem over : Rows.valueWordsRow.holds Tryd.pinned (OpenSpec.ofChange Rows.valueWordsSpec) :=
  OpenClaim.holds_of_wide 3 Tryd.f3 rfl rfl rfl rfl rfl rfl rfl ⟨rfl, rfl, rfl, rfl, rfl⟩ rfl rfl rfl rfl rfl (by kernel_rfl) Tryd.func3 (by kernel_rfl)
    (of_decide_eq_true (by kernel_rfl)) (by unfold Func.isWrapper; first | (rw [if_pos (by decide +kernel)]; kernel_rfl) | (rw [if_neg (by decide +kernel)]; exact ⟨rfl, rfl⟩))
    (fun os started H enc _ => lifted os started H enc)
theorem proved : Rows.ValueWordsCardSaid :=
  Claim7.holds_tied_plain_at .later [] [.data, .data, .data, .sentinel, .sentinel] true (true, "c31e0e6559b74baf15febe27140eed1b2e056e84c829090b08d6d10ed788757f") true
    over (fun _ h => by cases h) (by kernel_rfl) (fun _ h => by cases h) valueWords_row_tie rfl ⟨rfl, rfl⟩ (by kernel_rfl) rfl
    (fun f fn hf hfn => by
      obtain rfl : f = 3 := Option.some.inj ((show Tryd.prog.funcNamed "scullion/scullionlaw10.ValueWords" = some 3 by kernel_rfl).symm.trans hf) |>.symm
      obtain rfl : fn = Tryd.f3 := (Option.some.inj (Tryd.func3.symm.trans hfn)).symm
      exact ⟨by kernel_rfl, fun j t ht => by
        rw [Tryd.params3] at ht
        have hm : t ∈ [3, 24, 25] := by simpa using Array.mem_of_getElem? ht
        have hall : ([3, 24, 25].all fun u => !Tryd.prog.wantsStandIn u) = true := by kernel_rfl
        exact (show Tryd.prog.wantsStandIn t = false by simpa using List.all_eq_true.1 hall t hm)⟩)
    (by kernel_rfl)
#print axioms proved
end Go.Proofs.YtacfddlclbelmaaDoor.valueWords
