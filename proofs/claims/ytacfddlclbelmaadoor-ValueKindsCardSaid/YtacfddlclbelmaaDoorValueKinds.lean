/-
  A value's words fit just one kind of field; what is told of words is told back.
-/
import Derived.Test.YtacfddlclbelmaaDoorRows
import Derived.WalkKit
import Derived.WalkSpells
import Derived.WalkLawsBesides
import Derived.WalkMore
import Derived.ProofKit
import Derived.OpenShut
import Derived.ShutString
import Derived.ChangeOld
import Derived.Below
import Derived.SizedLaws
import Derived.Lib.Hide
import Derived.Test.YtacfddlclbelmaaDoorOpen
import Derived.Test.YtacfddlclbelmaaDoorVt
import Derived.Test.YtacfddlclbelmaaDoorTie
import Derived.Test.YtacfddlclbelmaaDoorCards
import Derived.SevenTiedAt
import Derived.Test.YtacfddlclbelmaaDoorVe
namespace Go.Proofs.YtacfddlclbelmaaDoor.valueKinds
open Go.RowKit Go.ChangeShapes Go.WideShapes Go.ChangeAt Go.Proofs.YtacfddlclbelmaaDoorW.PrintWords
set_option linter.unusedVariables false
open Go.Proofs.YtacfddlclbelmaaDoor.Ba Go.Proofs.YtacfddlclbelmaaDoor.Va Go.Proofs.YtacfddlclbelmaaDoor.Vb Go.Proofs.YtacfddlclbelmaaDoor.Vc Go.Proofs.YtacfddlclbelmaaDoor.Vd Go.Proofs.YtacfddlclbelmaaDoor.Ve
set_option maxHeartbeats 8000000
set_option maxRecDepth 100000
def kOf (v : V5) : Int := if v.kd = 1 then 1 else if v.kd = 2 then 2 else 3
theorem kOf_lo (v : V5) : 1 ≤ kOf v := by unfold kOf; split; omega; split <;> omega
theorem words_kind {k : Int} {v : V5} (h : (wordsV k v).isSome = true) : k = kOf v := by
  unfold wordsV at h
  unfold kOf
  split at h
  · rename_i e; rw [if_pos e.2]; exact e.1
  · split at h
    · rename_i e; rw [if_neg (by omega), if_pos e.2]; exact e.1
    · split at h
      · rename_i e; rw [if_neg (by omega), if_neg (by omega)]; exact e.1
      · split at h
        · rename_i e; rw [if_neg (by omega), if_neg (by omega)]; exact e.1
        · cases h
theorem wrap_one (m : Int) (h0 : -10 ≤ m) (h1 : m ≤ 10) : IntKind.i64.wrap (m + 1) = m + 1 := Go.IntWalk.i64_in _ (by omega)
/-- What is told of words is told back. -/
theorem told_back {k : Int} {l : List Int} {o : V5} (h : ofV k l = some o) (hw : ∀ x ∈ l, 0 ≤ x ∧ x < 18446744073709551616) : wordsV k o = some l ∧ -1 ≤ o.ref ∧ o.ref ≤ 1099511627777 := by
  unfold ofV at h
  split at h
  · rename_i e
    obtain ⟨rfl, hl⟩ := e
    obtain ⟨a, rfl⟩ := List.length_eq_one_iff.1 hl
    obtain rfl := Option.some.inj h
    have := hw a (by simp)
    refine ⟨?_, by show -1 ≤ (0 : Int); omega, by show (0 : Int) ≤ _; omega⟩
    simp only [wordsV, List.getD_cons_zero, and_self, if_true, Option.some.injEq, List.cons.injEq, and_true]
    rw [IntKind.wrap_u64]
    unfold wrap64
    omega
  · split at h
    · rename_i e
      obtain ⟨rfl, hl⟩ := e
      rcases l with _ | ⟨a, _ | ⟨b, _ | ⟨c, t⟩⟩⟩
      · cases hl
      · cases hl
      · obtain rfl := Option.some.inj h
        exact ⟨by simp [wordsV], by show -1 ≤ (0 : Int); omega, by show (0 : Int) ≤ _; omega⟩
      · simp at hl
    · split at h
      · rename_i e
        obtain ⟨rfl, hl, h0⟩ := e
        obtain ⟨a, rfl⟩ := List.length_eq_one_iff.1 hl
        obtain rfl := Option.some.inj h
        have h0' : a = 0 := h0
        subst h0'
        exact ⟨by simp [wordsV, z5], by decide, by decide⟩
      · split at h
        · rename_i n1 n2 n3 e
          obtain ⟨rfl, hl, h0⟩ := e
          obtain ⟨a, rfl⟩ := List.length_eq_one_iff.1 hl
          obtain rfl := Option.some.inj h
          have h0' : a ≤ 1099511627777 := h0
          have hn : ¬ a = 0 := fun e => n3 ⟨rfl, rfl, e⟩
          have := hw a (by simp)
          refine ⟨?_, by show -1 ≤ a - 1; omega, by show a - 1 ≤ _; omega⟩
          unfold wordsV
          rw [if_neg (by omega), if_neg (by omega), if_neg (by simp), if_pos ⟨rfl, rfl, by show 0 ≤ a - 1; omega, by show a - 1 ≤ _; omega⟩]
          show some [a - 1 + 1] = some [a]
          rw [show a - 1 + 1 = a by omega]
        · cases h
theorem walk (w : World) (HT0 : Vp.Tab w) (x0 : Ba.V5) (hk0 : Ba.k5.K w x0 (Ba.agg5 x0).cells.toList) (ok0 : Ba.ok5 x0) (A1 : Option Addr) (c1 : Nat) (x1 : List Int) (hc1 : x1.length ≤ c1) (hr1 : Kd.C (Kd.int .u64) w A1 x1.length x1) (ok1 : x1.length ≤ maxLen ∧ ∀ y ∈ x1, (Lit.int .u64 y).wf = true) (a2 : Int) (w2 : (Lit.int .i64 a2).wf = true) :
    Calls Tryd.prog 4 #[Ba.agg5 x0, .slice A1 x1.length c1, .int .i64 a2] w fun e w' => e = .returned (.bool true) ∧ Below w.heap.size w w' := by
  obtain ⟨kd, n, re, im, ref⟩ := x0
  have HRW := Lib.hid (ru_C hr1)
  have HWB := Lib.hid (fun x hx => u64_bd (ok1.2 x hx))
  have hml : x1.length ≤ 9223372036854775807 := by have := ok1.1; unfold maxLen at this; omega
  have HML := Lib.hid hml
  have HRF := Lib.hid ok0.2.2.2.2
  have hz := hz24'
  have HB0 := Lib.hid (bel_one w (.cells #[.int .i64 kd, .int .i64 n, .int .u64 re, .int .u64 im, .int .i64 ref] 24))
  have HX0 := Lib.hid (show Bx5 (w.alloc (.cells #[.int .i64 kd, .int .i64 n, .int .u64 re, .int .u64 im, .int .i64 ref] 24)) w.heap.size ⟨kd, n, re, im, ref⟩ from heap_alloc_new w _)
  obtain ⟨w0, hw0⟩ : ∃ w0, w.alloc (.cells #[.int .i64 kd, .int .i64 n, .int .u64 re, .int .u64 im, .int .i64 ref] 24) = w0 := ⟨_, rfl⟩
  rw [hw0] at HB0 HX0
  have HT := Lib.hid HT0
  have hs0 := blk_lt HX0.out
  have HWD := Lib.hid (fun (W : World) (k : Int) => words_any k kd n re im ref HRF.out W)
  unfold WPost agg5 at HWD
  dsimp only at HWD
  have HKI := Lib.hid (fun (k : Int) => words_kind (k := k) (v := ⟨kd, n, re, im, ref⟩))
  have HKL := Lib.hid (kOf_lo ⟨kd, n, re, im, ref⟩)
  obtain ⟨K, hK⟩ : ∃ K, kOf ⟨kd, n, re, im, ref⟩ = K := ⟨_, rfl⟩
  rw [hK] at HKI HKL
  clear hr1 ok0 ok1 hk0 HT0 hK hml
  unfold agg5
  dsimp only
  go_enter Tryd.func4, Tryd.ntmps4
  go_wp2
  go_loopw [7, 8] (fun i j wr => ∃ m k : Int, i = .int .i64 m ∧ j = .int .i64 k ∧ -1 ≤ k ∧ k ≤ 6 ∧ 0 ≤ m ∧ m ≤ 1 ∧ (m = 1 → K < k) ∧ Below w0.heap.size w0 wr) (fun _ j _ => (6 - intOf j).toNat)
  case atStart => exact ⟨0, -1, rfl, rfl, by omega, by omega, by omega, by omega, by omega, Below.refl _ _⟩
  case round =>
    obtain ⟨m, k, rfl, rfl, hk0, hk1, hm0, hm1, hmk, hb⟩ := hrel
    have HB := Lib.hid hb
    have HX := Lib.hid (blk_below HX0.out hb)
    have HMK := Lib.hid hmk
    clear hb hmk
    obtain ⟨q0, q1, q2, q3, q4⟩ := Bx5.cells HX.out
    by_cases hk5 : k ≤ 5
    · have HW := Lib.hid (HWD.out · k)
      have hkw := wrap_one k (by omega) (by omega)
      have hmw := wrap_one m (by omega) (by omega)
      have HKK := Lib.hid (HKI.out k)
      obtain ⟨l, hl⟩ : ∃ l, (wordsV k ⟨kd, n, re, im, ref⟩).getD [] = l := ⟨_, rfl⟩
      obtain ⟨lb, hlb⟩ : ∃ lb, (wordsV k ⟨kd, n, re, im, ref⟩).isSome = lb := ⟨_, rfl⟩
      rw [hl, hlb] at HW
      rw [hlb] at HKK
      clear hl hlb
      cases lb
      · go_wp2_with fail
        refine (HW.out _).mono ?_
        rintro e w1 ⟨A5, c5, rfl, hc5, hr5, hb1⟩
        have HB1 := Lib.hid (HB.out.trans (hb1.mono HB.out.size))
        clear hb1 hr5
        go_wp2
        go_roundw
        case rel => exact ⟨m, k + 1, rfl, by go_num, by omega, by omega, by omega, by omega, fun h => by have := HMK.out h; omega, HB1.out⟩
        case measure => simp [intOf]; omega
      · have HKE := Lib.hid (HKK.out rfl)
        have hm : m = 0 := by
          rcases (show m = 0 ∨ m = 1 by omega) with h | h
          · exact h
          · have := HMK.out h
            have := HKE.out
            omega
        subst hm
        go_wp2_with fail
        refine (HW.out _).mono ?_
        rintro e w1 ⟨A5, c5, rfl, hc5, hr5, hb1⟩
        have HB1 := Lib.hid (HB.out.trans (hb1.mono HB.out.size))
        clear hb1 hr5
        go_wp2
        go_roundw
        case rel => exact ⟨1, k + 1, rfl, by go_num, by omega, by omega, by omega, by omega, fun h => by have := HKE.out; omega, HB1.out⟩
        case measure => simp [intOf]; omega
    · have HBw := Lib.hid (HB0.out.trans (HB.out.mono HB0.out.size))
      have HRB := Lib.hid (HRW.out.below HBw.out)
      have HTB := Lib.hid (HT.out.below HBw.out)
      clear q0 q1 q2 q3 q4
      cases ho : ofV a2 x1 with
      | none =>
        have HO := Lib.hid ho
        clear ho
        go_wp2_with fail
        refine (of_not HO.out A1 c1 _ HRB.out HWB.out).mono ?_
        rintro e w1 ⟨rfl, hb1⟩
        have HB1 := Lib.hid (HBw.out.trans (hb1.mono HBw.out.size))
        have HT1 := Lib.hid (HTB.out.below hb1)
        clear hb1
        obtain ⟨w2, h1, h2, h3⟩ := Vb.stored w1 ⟨0, 0, 0, 0, 0⟩
        have HT2 := Lib.hid (there5 (x := z5) (heap_alloc_new w1 (.cells #[.int .i64 0, .int .i64 0, .int .u64 0, .int .u64 0, .int .i64 0] 24)))
        have H1 := Lib.hid h1
        have HB2 := Lib.hid (HB1.out.trans (h3.mono HB1.out.size))
        have HT3 := Lib.hid (HT1.out.below h3)
        clear h1 h2 h3
        go_wp2_with (first | (refine store_named (P := Tryd.prog) rfl 24 (.tmp 11) (.tmp 33) rfl w1.heap.size 0 #[.int .i64 0, .int .i64 0, .int .u64 0, .int .u64 0, .int .i64 0] rfl rfl HT2.out infoV (one5 _ _ _ _ _) H1.out ?_) | fail)
        refine (Vp.awake_any _ HT3.out).mono ?_
        rintro e w4 ⟨rfl, hb4⟩
        have HB4 := Lib.hid (HB2.out.trans (hb4.mono HB2.out.size))
        clear hb4
        go_wp2
        go_ret
        exact ⟨rfl, HB4.out⟩
      | some o =>
        obtain ⟨o1, o2, o3, o4, o5⟩ := o
        have HO := Lib.hid ho
        have HTK := Lib.hid (told_back ho HWB.out)
        have HOW : Hid ((Lit.int .i64 o5).wf = true) := Lib.hid (by
          have h := HTK.out.2
          dsimp only at h
          exact Go.WalkArith.wf_i64 ⟨by omega, by omega⟩)
        clear ho
        go_wp2_with fail
        refine (of_is HO.out A1 c1 _ HRB.out HWB.out).mono ?_
        rintro e w1 ⟨rfl, hb1⟩
        have HB1 := Lib.hid (HBw.out.trans (hb1.mono HBw.out.size))
        have HT1 := Lib.hid (HTB.out.below hb1)
        have HR1 := Lib.hid (HRB.out.below hb1)
        clear hb1
        obtain ⟨w2, h1, h2, h3⟩ := Vb.stored w1 ⟨o1, o2, o3, o4, o5⟩
        have HT2 := Lib.hid (there5 (x := z5) (heap_alloc_new w1 (.cells #[.int .i64 0, .int .i64 0, .int .u64 0, .int .u64 0, .int .i64 0] 24)))
        have H1 := Lib.hid h1
        have HB2 := Lib.hid (HB1.out.trans (h3.mono HB1.out.size))
        have HT3 := Lib.hid (HT1.out.below h3)
        have HR2 := Lib.hid (HR1.out.below h3)
        obtain ⟨q0, q1, q2, q3, q4⟩ := Bx5.cells h2
        clear h1 h2 h3
        go_wp2_with (first | (refine store_named (P := Tryd.prog) rfl 24 (.tmp 11) (.tmp 33) rfl w1.heap.size 0 #[.int .i64 o1, .int .i64 o2, .int .u64 o3, .int .u64 o4, .int .i64 o5] rfl rfl HT2.out infoV (one5 _ _ _ _ _) H1.out ?_) | fail)
        refine (words_is HTK.out.1 HOW.out _).mono ?_
        rintro e w3 ⟨A5, c5, rfl, hc5, hr5, hb3⟩
        have HB3 := Lib.hid (HB2.out.trans (hb3.mono HB2.out.size))
        have HT4 := Lib.hid (HT3.out.below hb3)
        have HR3 := Lib.hid (HR2.out.below hb3)
        have HR5 := Lib.hid hr5
        clear hb3 hr5 q0 q1 q2 q3 q4
        obtain ⟨N, hN⟩ : ∃ N, x1.length = N := ⟨_, rfl⟩
        have HN := Lib.hid hN
        have hNm : N ≤ 9223372036854775807 := by rw [← hN]; exact HML.out
        rw [hN]
        clear hN
        have bN : ((N : Int) != (N : Int)) = false := by simp
        go_wp2
        go_loopw [53] (fun i wr => ∃ t : Nat, t ≤ N ∧ i = .int .i64 (t : Int) ∧ Below w3.heap.size w3 wr) (fun i _ => N - (intOf i).toNat)
        case atStart => exact ⟨0, by omega, rfl, Below.refl _ _⟩
        case round =>
          obtain ⟨t, ht, rfl, hb⟩ := hrel
          have HBt := Lib.hid hb
          by_cases hlt : t < N
          · obtain ⟨ad, rfl, hp⟩ := RU.old HR3.out hb.block t (by rw [HN.out]; exact hlt)
            obtain ⟨bd, rfl, hq⟩ := RU.old HR5.out hb.block t (by rw [HN.out]; exact hlt)
            obtain ⟨x, hx⟩ : ∃ x, x1.getD t 0 = x := ⟨_, rfl⟩
            rw [hx] at hp hq
            clear hx hb
            have b0 : (x != x) = false := by simp
            go_wp2
            go_region
            all_goals
              go_wp2
              go_roundw
              case rel => exact ⟨t + 1, by omega, by go_num, HBt.out.drew⟩
              case measure => simp [intOf]; omega
          · clear hb
            have HB6 := Lib.hid (HB3.out.trans (HBt.out.mono HB3.out.size))
            go_wp2_with fail
            refine (Vp.awake_any _ (HT4.out.below HBt.out)).mono ?_
            rintro e w4 ⟨rfl, hb4⟩
            have HB4 := Lib.hid (HB6.out.trans (hb4.mono HB6.out.size))
            clear hb4
            go_wp2
            go_ret
            exact ⟨rfl, HB4.out⟩

theorem own : ownKnob Tryd.prog.godebug = none := by kernel_rfl
theorem laidOut : laidOutB Tryd.prog = true := by kernel_rfl
set_option maxRecDepth 100000 in
theorem lifted (os : Os) (started : os.Started) (H : Type) (enc : TypeId × Value → H) :
    ReturnsInHanded {} Tryd.checked os 4 .any (fun w args => (Rows.valueKindsSpec.pre enc Tryd.prog Tryd.f4 [] false w args ∧ laidMetH Tryd.prog Vt.laid w) ∧ sizedMet enc Tryd.prog Tryd.f4 (OpenSpec.ofChange Rows.valueKindsSpec) false w args) (Rows.valueKindsSpec.post enc Tryd.prog Tryd.f4 false true false false) := by
  refine returnsInHanded_of_change_and (C := Tryd.checked) (X := fun w _ => laidMetH Tryd.prog Vt.laid w) (fun _ _ _ hh h => h.of_heap hh) own started (by kernel_rfl) Tryd.func4
    (ChangeSpec.witness_shaped (enc := enc) (C := Tryd.checked) (os := os) (X := fun w _ => laidMetH Tryd.prog Vt.laid w) false (World.doorLaid Tryd.prog 400 os) #[.agg #[.int .i64 0, .int .i64 0, .int .u64 0, .int .u64 0, .int .i64 0], .slice none 0 0, .int .i64 0] 8 rfl (World.shaped_of_RefB (by kernel_rfl) (by kernel_rfl)) (by kernel_rfl) (by kernel_rfl) (by kernel_rfl) (Vt.door_met os _)) ?_
  intro W base args ds gs before hval0 hW _ _ hL _
  have hval : ∀ (j : Nat) t v, Tryd.f4.params[j]? = some t → args[j]? = some v → Value.okWide Tryd.prog W .any base t v := hval0
  have hW' := hW
  obtain ⟨p, q, hA0, hV, rfl, hfz, hnd⟩ := hW
  have hA : DataW.TrodAll enc Tryd.prog W 0 (fun _ => true) true Tryd.f4.params.toList args.toList ds p := hA0
  rw [Tryd.params4] at hA hval
  obtain ⟨v0, vs0, d0, ds0, p0, q0, hargs, rfl, rfl, h0, r0⟩ := trodAll_cons hA
  obtain ⟨v1, vs1, d1, ds1, p1, q1, rfl, rfl, rfl, h1, r1⟩ := trodAll_cons r0
  obtain ⟨v2, vs2, d2, ds2, p2, q2, rfl, rfl, rfl, h2, r2⟩ := trodAll_cons r1
  obtain ⟨rfl, rfl, rfl⟩ := trodAll_nil r2
  obtain rfl : args = #[v0, v1, v2] := by cases args; simp_all
  obtain ⟨rfl, rfl⟩ := trodVars_none hV
  have k0 := h0
  have lt0 : ∀ x ∈ p0, x.block < W.heap.size := by obtain ⟨m, hm⟩ := k0; exact DataW.trod_lt m _ _ _ hm
  obtain ⟨fuel0, hf0⟩ := h0
  obtain ⟨x0, hk0, ok0⟩ := (Ba.opens_v5) H enc W 0 _ _ _ _ _ hf0
  obtain rfl : v0 = Ba.agg5 x0 := Ba.agg5_of (hval 0 24 v0 rfl rfl) hk0
  obtain ⟨a1, len1, cap1, rfl⟩ := okWide_slice Tryd.underlying25 (hval 1 25 v1 rfl rfl)
  have k1 := h1
  have lt1 : ∀ x ∈ p1, x.block < W.heap.size := by obtain ⟨m, hm⟩ := k1; exact DataW.trod_lt m _ _ _ hm
  obtain ⟨fuel1, hf1⟩ := h1
  obtain ⟨x1, ⟨A1, c1, e1, hc1, hr1⟩, ok1⟩ := Op.opens_slice (n := 22) Tryd.underlying25 (by kernel_rfl) (Op.opens_int Tryd.underlying22) H enc W 0 _ _ _ _ _ hf1
  obtain ⟨rfl, rfl, rfl⟩ : a1 = A1 ∧ len1 = x1.length ∧ cap1 = c1 := by simpa [Value.cells] using e1
  obtain ⟨a2, rfl, rfl, rfl, w2⟩ := open_int Tryd.underlying3 (hval 2 3 v2 rfl rfl) h2
  clear hA0 hval0
  refine (walk W (Vt.tab hL) x0 hk0 ok0 _ _ x1 hc1 hr1 ok1 a2 w2).mono fun e W' ⟨he, bel⟩ => ?_
  subst he
  exact ⟨_, rfl, _, _, _, [], _, [], hW', trodAll_mk1 (shut_bool Tryd.underlying4 _), (trodAll_cons_mk (Below.trod laidOut (by kernel_rfl) (of_decide_eq_true (by kernel_rfl)) k0 bel lt0) (trodAll_cons_mk (Below.trod laidOut (by kernel_rfl) (of_decide_eq_true (by kernel_rfl)) k1 bel lt1) (trodAll_cons_mk (shut_int Tryd.underlying3 w2) trodAll_mk0))), rfl, bel.frame _, fun h => by cases h⟩
theorem over : Rows.valueKindsRow.holds Tryd.pinned (OpenSpec.ofChange Rows.valueKindsSpec) :=
  OpenClaim.holds_of_wide 4 Tryd.f4 rfl rfl rfl rfl rfl rfl rfl ⟨rfl, rfl, rfl, rfl, rfl⟩ rfl rfl rfl rfl rfl (by kernel_rfl) Tryd.func4 (by kernel_rfl)
    (of_decide_eq_true (by kernel_rfl)) (by unfold Func.isWrapper; first | (rw [if_pos (by decide +kernel)]; kernel_rfl) | (rw [if_neg (by decide +kernel)]; exact ⟨rfl, rfl⟩))
    (fun os started H enc _ => lifted os started H enc)
theorem proved : Rows.ValueKindsCardSaid :=
  Claim7.holds_tied_plain_at .later [] [.data, .data, .data, .sentinel, .sentinel] true (true, "c31e0e6559b74baf15febe27140eed1b2e056e84c829090b08d6d10ed788757f") true
    over (fun _ h => by cases h) (by kernel_rfl) (fun _ h => by cases h) valueKinds_row_tie rfl ⟨rfl, rfl⟩ (by kernel_rfl) rfl
    (fun f fn hf hfn => by
      obtain rfl : f = 4 := Option.some.inj ((show Tryd.prog.funcNamed "scullion/scullionlaw10.ValueKinds" = some 4 by kernel_rfl).symm.trans hf) |>.symm
      obtain rfl : fn = Tryd.f4 := (Option.some.inj (Tryd.func4.symm.trans hfn)).symm
      exact ⟨by kernel_rfl, fun j t ht => by
        rw [Tryd.params4] at ht
        have hm : t ∈ [24, 25, 3] := by simpa using Array.mem_of_getElem? ht
        have hall : ([24, 25, 3].all fun u => !Tryd.prog.wantsStandIn u) = true := by kernel_rfl
        exact (show Tryd.prog.wantsStandIn t = false by simpa using List.all_eq_true.1 hall t hm)⟩)
    (by kernel_rfl)
#print axioms proved
end Go.Proofs.YtacfddlclbelmaaDoor.valueKinds
