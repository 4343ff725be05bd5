/-
  With more writes behind, closure.Of's objects of the first writes are among those of all of them, and weak writes take nothing along; conditions: those of the statement.
-/
import Derived.Test.YtgkjhnilgmokiaaRows
import Derived.WalkKit
import Derived.WalkSpells
import Derived.WalkLawsBesides
import Derived.WalkMore
import Derived.ProofKit
import Derived.OpenShut
import Derived.ShutString
import Derived.ChangeOld
import Derived.Below
import Derived.SizedLaws
import Derived.Lib.Hide
import Derived.Test.YtgkjhnilgmokiaaOpen
import Derived.Test.YtgkjhnilgmokiaaCo
namespace Go.Proofs.Ytgkjhnilgmokiaa.closureMore
open Go.RowKit Go.ChangeShapes Go.WideShapes Go.ChangeAt Go.Proofs.YtgkjhnilgmokiaaW.PrintWords
set_option linter.unusedVariables false
open Ha Hp Cl Clo W8 Of Fo Aw Clm Mi Co
set_option maxHeartbeats 16000000 in
set_option maxRecDepth 20000 in
theorem walk (w : World) (A0 : Option Addr) (c0 : Nat) (x0 : List W8.W8) (hc0 : x0.length ≤ c0) (hr0 : Kd.C W8.k8 w A0 x0.length x0) (ok0 : x0.length ≤ maxLen ∧ ∀ y ∈ x0, W8.ok8 y) (A1 : Option Addr) (c1 : Nat) (x1 : List W8.W8) (hc1 : x1.length ≤ c1) (hr1 : Kd.C W8.k8 w A1 x1.length x1) (ok1 : x1.length ≤ maxLen ∧ ∀ y ∈ x1, W8.ok8 y) (A2 : Option Addr) (c2 : Nat) (x2 : List (List Int)) (hc2 : x2.length ≤ c2) (hr2 : Kd.C (Kd.slice 3 (Kd.int .i64)) w A2 x2.length x2) (ok2 : x2.length ≤ maxLen ∧ ∀ y ∈ x2, y.length ≤ maxLen ∧ ∀ z ∈ y, (Lit.int .i64 z).wf = true) :
    Calls Try.prog 4 #[.slice A0 x0.length c0, .slice A1 x1.length c1, .slice A2 x2.length c2] w fun e w' => e = .returned (.bool true) ∧ Below w.heap.size w w' := by
  have hm0 := Kd.C_max hr0
  have hm1 := Kd.C_max hr1
  have HR0 := Lib.hid hr0
  have HR1 := Lib.hid hr1
  have HR2 := Lib.hid hr2
  clear hr0 hr1 hr2 ok0 ok1 ok2
  go_enter Try.func4, Try.ntmps4
  go_wp2_with fail
  refine (light_any A2 c2 x2 A0 x0.length c0 w HR2.out hm0).mono ?_
  rintro e w1 ⟨⟨b, rfl, hL⟩, rfl⟩
  cases b
  · clear hL
    go_wp2_with fail
    refine (Aw.awake_any _).mono ?_
    rintro e w1 ⟨rfl, hb⟩
    go_wp2
    go_ret
    exact ⟨rfl, hb⟩
  · obtain ⟨l1, l2, l3⟩ := hL rfl
    have L3 := Lib.hid l3
    clear hL l3
    go_wp2_with fail
    refine (light_any A2 c2 x2 A1 x1.length c1 w HR2.out hm1).mono ?_
    rintro e w1 ⟨⟨b, rfl, hL⟩, rfl⟩
    cases b
    · clear hL
      go_wp2_with fail
      refine (Aw.awake_any _).mono ?_
      rintro e w1 ⟨rfl, hb⟩
      go_wp2
      go_ret
      exact ⟨rfl, hb⟩
    · obtain ⟨_, l4, _⟩ := hL rfl
      clear hL
      go_wp2_with fail
      refine (refs_any A2 x2.length c2 w).mono ?_
      rintro e w1 ⟨rfl, rfl⟩
      have hT := Lib.hid (heap_alloc_new w (.cells #[.slice A2 x2.length c2] 23))
      have hb1 := (Below.refl w.heap.size w).alloc (Nat.le_refl _) (.cells #[.slice A2 x2.length c2] 23)
      have hgX := Lib.hid (gd_clo (R := Rt x2) 65 (sd x0) 0 (gd_sd x0))
      go_wp2_with fail
      refine (of_37 x2 A2 c2 w.heap.size A0 c0 x0 _ (Kd.C_below HR0.out hb1) (by omega) hT.out (Kd.C_below HR2.out hb1) L3.out l1).mono ?_
      rintro e w2 ⟨vx, rfl, hox, hb2⟩
      have hb2 := hb1.trans (hb2.mono hb1.size)
      obtain ⟨X, hX⟩ : ∃ X, clo (Rt x2) 65 (sd x0) 0 = X := ⟨_, rfl⟩
      rw [hX] at hox hgX
      have HX := Lib.hid hX
      obtain ⟨_, Ax, cx, rfl, _⟩ := own_rd hox
      have HOX := Lib.hid (own_weaken hox (show 0 ≤ _ by omega))
      clear hT hX hox hb1
      have hL0 := Lib.hid (R8.lit0 w2 w2.heap.size (Nat.le_refl _))
      have hbl := (Below.refl w2.heap.size w2).alloc (Nat.le_refl _) (.cells #[] 38)
      have hC0 := Lib.hid (Kd.C_below HR0.out (hb2.trans (hbl.mono hb2.size)))
      go_wp2_with (at_builtin; refine Kd.R_append_rows (P := Try.prog) k8 (w0 := w2) (Rr := k8.K _) w2.heap.size rfl (.tmp 32) (.tmp 33) 22 38 z38 64 rfl Try.underlying22 info38 rfl (by decide) (by decide) _ [] x0 A0 x0.length c0 (fun _ => True) (fun _ => False) rfl rfl hL0.out hC0.out (fun _ _ h => k8_KM h) (fun _ h => h.elim) (fun _ _ => trivial) hbl hbl.size ?c1 ?_)
      case c1 => simp; omega
      intro v3 w3 hr3 hb3 _ _
      have hr3 : R8 w3 w2.heap.size v3 x0 := hr3
      have HC1 := Lib.hid (Kd.C_below HR1.out (hb2.trans (hb3.mono hb2.size)))
      have HV3 := Lib.hid hr3
      clear hr3 hL0 hbl hC0
      go_wp2_with (at_builtin; refine Kd.R_append_rows (P := Try.prog) k8 (w0 := w2) (W := w3) (Rr := k8.K _) w2.heap.size rfl (.tmp 34) (.tmp 35) 22 38 z38 64 rfl Try.underlying22 info38 rfl (by decide) (by decide) v3 x0 x1 A1 x1.length c1 (fun _ => True) (fun _ => False) rfl rfl HV3.out HC1.out (fun _ _ h => k8_KM h) (fun _ h => h.elim) (fun _ _ => trivial) hb3 hb3.size ?c2 ?_)
      case c2 => omega
      intro v4 w4 hr4 hb4 _ _
      have hr4 : R8 w4 w2.heap.size v4 (x0 ++ x1) := hr4
      obtain ⟨L, hL⟩ : ∃ L, x0 ++ x1 = L := ⟨_, rfl⟩
      have hLl : L.length ≤ 160 := by rw [← hL, List.length_append]; omega
      rw [hL] at hr4
      have hox := own_below HOX.out hb4 (Nat.le_refl _)
      obtain ⟨A4, c4, rfl, hc4⟩ := hr4.reads
      have HC4 := Lib.hid hc4
      have HOX := Lib.hid hox
      have hb4 := hb2.trans (hb4.mono hb2.size)
      clear hr4 hox hb3 HV3 HC1 hc4 hb2
      go_wp2_with fail
      refine (refs_any A2 x2.length c2 w4).mono ?_
      rintro e w5 ⟨rfl, rfl⟩
      have hT := Lib.hid (heap_alloc_new w4 (.cells #[.slice A2 x2.length c2] 23))
      have hb5 := hb4.alloc hb4.size (.cells #[.slice A2 x2.length c2] 23)
      have hl45 := (Below.refl w4.heap.size w4).alloc (Nat.le_refl _) (.cells #[.slice A2 x2.length c2] 23)
      have hgY := Lib.hid (gd_clo (R := Rt x2) 65 (sd L) 0 (gd_sd L))
      have HSUB := Lib.hid (clo_more (R := Rt x2) x0 x1)
      rw [hL] at HSUB
      clear hL
      go_wp2_with fail
      refine (of_37 x2 A2 c2 w4.heap.size A4 c4 L _ (Kd.C_below HC4.out hl45) (by omega) hT.out (Kd.C_below HR2.out hb5) L3.out l1).mono ?_
      rintro e w6 ⟨vy, rfl, hoy, hb6⟩
      have hox := own_below HOX.out (hl45.trans (hb6.mono hl45.size)) (Nat.le_refl _)
      have hb6 := hb5.trans (hb6.mono hb5.size)
      obtain ⟨Y, hY⟩ : ∃ Y, clo (Rt x2) 65 (sd L) 0 = Y := ⟨_, rfl⟩
      rw [hY] at hoy hgY HSUB
      rw [HX.out] at HSUB
      obtain ⟨_, Ay, cy, rfl, _⟩ := own_rd hoy
      have HOY := Lib.hid (own_weaken hoy (show 0 ≤ _ by omega))
      have HOX := Lib.hid hox
      clear hT hY hoy hox hb4 hb5 hl45 HC4
      have mk : ∀ w, (Instr.makeMap 33 none).run Try.prog w = .ok (.map (some w.heap.size)) (w.alloc (.map #[] 0)) := fun _ => rfl
      have HM := Lib.hid (IM.made w6)
      have hY64 := gd_le hgY.out
      have hX64 := gd_le hgX.out
      go_wp2
      clear mk
      go_loopw [43] (fun i wr => ∃ m : Nat, m ≤ Y.length ∧ i = .int .i64 (m : Int) ∧ IM wr w6.heap.size m (inF (Y.take m)) ∧ Below w6.heap.size w6 wr) (fun i _ => Y.length - (intOf i).toNat)
      case atStart => exact ⟨0, by omega, rfl, HM.out, (Below.refl _ _).alloc (Nat.le_refl _) _⟩
      case round =>
        obtain ⟨m, hm, rfl, hM, hb7⟩ := hrel
        by_cases hlt : m < Y.length
        · obtain ⟨ady, cy', e, hcy⟩ := own_form (own_below HOY.out hb7 (Nat.le_refl _)) m hlt
          injection e with e1 _ e3
          subst e1 e3
          obtain ⟨w8, hst, hM8, hg8⟩ := hM.store (by unfold maxLen; omega) (Y.getD m 0) 1 (wf_vol (hgY.out.2 _ (mem_getD hlt))) (by decide)
          rw [inF_next hlt] at hM8
          have hb8 := hb7.grown hg8 hb7.size (fun k hk => by injection hk with hk; omega)
          have HM8 := Lib.hid hM8
          obtain ⟨y, hy⟩ : ∃ y, Y.getD m 0 = y := ⟨_, rfl⟩
          rw [hy] at hcy hst
          clear hM8 hg8 hM hy
          go_wp2
          go_roundw
          case rel => exact ⟨m + 1, by omega, by go_num, HM8.out, hb8⟩
          case measure => simp [intOf]; omega
        · obtain rfl : m = Y.length := by omega
          rw [List.take_length] at hM
          have HM7 := Lib.hid hM
          have HOX7 := Lib.hid (own_below HOX.out hb7 (Nat.le_refl _))
          have hb7 := hb6.trans (hb7.mono hb6.size)
          obtain ⟨w7, rfl⟩ : ∃ w7 : World, w7 = wr := ⟨_, rfl⟩
          clear hM HM hb6
          go_wp2
          go_loop [52] (fun i => ∃ m : Nat, m ≤ X.length ∧ i = .int .i64 (m : Int)) (fun i => X.length - (intOf i).toNat)
          case atStart => exact ⟨0, by omega, rfl⟩
          case round =>
            obtain ⟨m, hm, rfl⟩ := hrel
            by_cases hlt : m < X.length
            · obtain ⟨adx, cx', e, hcx⟩ := own_form HOX7.out m hlt
              injection e with e1 _ e3
              subst e1 e3
              have hmx := mem_getD hlt
              have hlk := HM7.out.look (X.getD m 0) (wf_vol (hgX.out.2 _ hmx))
              unfold inF at hlk
              rw [if_pos (HSUB.out _ hmx)] at hlk
              dsimp only [Option.getD] at hlk
              obtain ⟨y, hy⟩ : ∃ y, X.getD m 0 = y := ⟨_, rfl⟩
              rw [hy] at hcx hlk
              clear hmx hy
              go_wp2
              go_round
              case rel => exact ⟨m + 1, by omega, by go_num⟩
              case measure => simp [intOf]; omega
            · obtain rfl : m = X.length := by omega
              clear HM7 HOY
              have HS0 := Lib.hid (R8.nil w7 w7.heap.size)
              go_wp2
              go_loopw [14, 63] (fun v i wr => ∃ m : Nat, m ≤ x0.length ∧ i = .int .i64 (m : Int) ∧ R8 wr w7.heap.size v (strong (x0.take m)) ∧ Below w7.heap.size w7 wr) (fun _ i _ => x0.length - (intOf i).toNat)
              case atStart => exact ⟨0, by omega, rfl, HS0.out, Below.refl _ _⟩
              case round =>
                obtain ⟨m, hm, rfl, hS, hb8⟩ := hrel
                have hbs := hb8.size
                by_cases hlt : m < x0.length
                · obtain ⟨ad, rfl, hc⟩ := at_W8 (Kd.C_below HR0.out (hb7.trans (hb8.mono hb7.size))) m hlt
                  have es : strong (x0.take (m + 1)) = strong (x0.take m) ++ (if ((x0.getD m z8).kind != 3) = true then [x0.getD m z8] else []) := by rw [take_next8 x0 m hlt, strong_snoc]
                  have ES := Lib.hid es
                  have hll : (strong (x0.take m)).length ≤ 80 := by
                    have h1 : (strong (x0.take m)).length ≤ (x0.take m).length := List.length_filter_le _ _
                    rw [List.length_take] at h1
                    omega
                  obtain ⟨L, hL⟩ : ∃ L, strong (x0.take m) = L := ⟨_, rfl⟩
                  obtain ⟨x, hx⟩ : ∃ x, x0.getD m z8 = x := ⟨_, rfl⟩
                  rw [hL] at hS ES hll
                  rw [hx] at hc ES
                  clear hL hx es
                  obtain ⟨q0, q1, q2, q3, q4, q5, q6, q7⟩ := hc
                  obtain ⟨f0, f1, f2, ⟨f3, f4, f5, f6, f7⟩⟩ := x
                  dsimp only at q0 q1 q2 q3 q4 q5 q6 q7
                  have hb9 := hb8.alloc hb8.size (.cells #[.int .i64 f0, .int .i64 f1, .int .i64 f2, .int .i64 f3, .int .i64 f4, .int .u64 f5, .int .u64 f6, .int .i64 f7] 38)
                  have hS9 := Lib.hid (hS.alloc (.cells #[.int .i64 f0, .int .i64 f1, .int .i64 f2, .int .i64 f3, .int .i64 f4, .int .u64 f5, .int .u64 f6, .int .i64 f7] 38))
                  have HSZ := Lib.hid (size_al wr (.cells #[.int .i64 f0, .int .i64 f1, .int .i64 f2, .int .i64 f3, .int .i64 f4, .int .u64 f5, .int .u64 f6, .int .i64 f7] 38))
                  clear hS
                  cases e1 : (f0 != 3)
                  · dsimp only at ES
                    rw [e1, if_neg (by decide), List.append_nil] at ES
                    go_wp2
                    go_roundw
                    case rel => exact ⟨m + 1, by omega, by go_num, by rw [ES.out]; exact hS9.out, hb9⟩
                    case measure => simp [intOf]; omega
                  · dsimp only at ES
                    rw [e1, if_pos rfl] at ES
                    go_wp2_with (at_builtin; refine Kd.R_append (P := Try.prog) k8 (w0 := w7) w7.heap.size rfl (.tmp 70) (.tmp 72) 22 38 z38 64 rfl Try.underlying22 info38 rfl (by decide) (by decide) _ L ⟨f0, f1, f2, ⟨f3, f4, f5, f6, f7⟩⟩ _ (fun _ => True) (fun _ => False) rfl (congrArg (fun n => Value.slice (some ⟨n, 0, none⟩) 1 1) HSZ.out.symm) (k8_M _ _ _ _) (fun _ h => h.elim) (fun _ _ => trivial) hS9.out hb9 hb9.size ?d1 ?_)
                    case d1 => omega
                    intro v10 w10 hr10 hb10 _ _
                    have HR10 : Hid (R8 w10 w7.heap.size v10 (strong (x0.take (m + 1)))) := Lib.hid (by rw [ES.out]; exact hr10)
                    clear hr10
                    go_wp2
                    go_roundw
                    case rel => exact ⟨m + 1, by omega, by go_num, HR10.out, hb10⟩
                    case measure => simp [intOf]; omega
                · obtain rfl : m = x0.length := by omega
                  rw [List.take_length] at hS
                  have hsl : (strong x0).length ≤ 80 := by
                    have h1 : (strong x0).length ≤ x0.length := List.length_filter_le _ _
                    omega
                  have hsd := sd_strong x0
                  obtain ⟨L, hL⟩ : ∃ L, strong x0 = L := ⟨_, rfl⟩
                  rw [hL] at hS hsl hsd
                  have HSD := Lib.hid hsd
                  obtain ⟨A9, c9, rfl, hc9⟩ := hS.reads
                  have HC9 := Lib.hid hc9
                  have hox := own_below HOX7.out hb8 (Nat.le_refl _)
                  have HOX := Lib.hid hox
                  have hb8 := hb7.trans (hb8.mono hb7.size)
                  obtain ⟨wq, rfl⟩ : ∃ wq : World, wq = wr := ⟨_, rfl⟩
                  clear hL hS hsd hc9 hox hb7
                  go_wp2_with fail
                  refine (refs_any A2 x2.length c2 wq).mono ?_
                  rintro e w9 ⟨rfl, rfl⟩
                  have hT := Lib.hid (heap_alloc_new wq (.cells #[.slice A2 x2.length c2] 23))
                  have hb9 := hb8.alloc hb8.size (.cells #[.slice A2 x2.length c2] 23)
                  have hl9 := (Below.refl wq.heap.size wq).alloc (Nat.le_refl _) (.cells #[.slice A2 x2.length c2] 23)
                  go_wp2_with fail
                  refine (of_37 x2 A2 c2 wq.heap.size A9 c9 L _ (Kd.C_below HC9.out hl9) (by omega) hT.out (Kd.C_below HR2.out hb9) L3.out l1).mono ?_
                  rintro e w10 ⟨vz, rfl, hoz, hb10⟩
                  rw [HSD.out, HX.out] at hoz
                  have hox := own_below HOX.out (hl9.trans (hb10.mono hl9.size)) (Nat.le_refl _)
                  have hb10 := hb9.trans (hb10.mono hb9.size)
                  obtain ⟨_, Az, cz, rfl, hrz⟩ := own_rd hoz
                  obtain ⟨_, Ax', cx', e, hrx⟩ := own_rd hox
                  injection e with e1 _ e3
                  subst e1 e3
                  have HRZ := Lib.hid hrz
                  have HRX := Lib.hid hrx
                  clear hT hoz hox hb8 hb9 hl9 HC9 hrz hrx
                  go_wp2_with fail
                  refine (same_yes Az Ax cz cx X _ (by omega) HRZ.out HRX.out).mono ?_
                  rintro e w11 ⟨rfl, hb11⟩
                  have hb11 := hb10.trans (hb11.mono hb10.size)
                  clear hb10
                  go_wp2_with fail
                  refine (Aw.awake_any _).mono ?_
                  rintro e w12 ⟨rfl, hb12⟩
                  have hb12 := hb11.trans (hb12.mono hb11.size)
                  clear hb11
                  go_wp2
                  go_ret
                  exact ⟨rfl, hb12⟩

theorem own : ownKnob Try.prog.godebug = none := by kernel_rfl
theorem laidOut : laidOutB Try.prog = true := by kernel_rfl
set_option maxRecDepth 100000 in
theorem lifted (os : Os) (started : os.Started) (H : Type) (enc : TypeId × Value → H) :
    ReturnsInHanded {} Try.checked os 4 .any (Rows.closureMoreSpec.pre6 enc Try.prog Try.f4 Rows.closureMoreRow.domain false) (Rows.closureMoreSpec.post enc Try.prog Try.f4 false true false false) := by
  refine returnsInHanded_of_change (C := Try.checked) own started (by kernel_rfl) Try.func4
    (ChangeSpec.witness6 (enc := enc) (C := Try.checked) false ⟨#[], #[.slice none 0 0, .slice none 0 0, .slice none 0 0], []⟩ 8 (by kernel_rfl) (by kernel_rfl) (by kernel_rfl) (by kernel_rfl)) ?_
  intro W base args ds gs before hval0 hW hcnd _
  have hval : ∀ (j : Nat) t v, Try.f4.params[j]? = some t → args[j]? = some v → Value.okWide Try.prog W .any base t v := hval0
  have hW' := hW
  obtain ⟨p, q, hA0, hV, rfl, hfz, hnd⟩ := hW
  have hA : DataW.TrodAll enc Try.prog W 0 (fun _ => true) true Try.f4.params.toList args.toList ds p := hA0
  rw [Try.params4] at hA hval
  obtain ⟨v0, vs0, d0, ds0, p0, q0, hargs, rfl, rfl, h0, r0⟩ := trodAll_cons hA
  obtain ⟨v1, vs1, d1, ds1, p1, q1, rfl, rfl, rfl, h1, r1⟩ := trodAll_cons r0
  obtain ⟨v2, vs2, d2, ds2, p2, q2, rfl, rfl, rfl, h2, r2⟩ := trodAll_cons r1
  obtain ⟨rfl, rfl, rfl⟩ := trodAll_nil r2
  obtain rfl : args = #[v0, v1, v2] := by cases args; simp_all
  obtain ⟨rfl, rfl⟩ := trodVars_none hV
  obtain ⟨a0, len0, cap0, rfl⟩ := okWide_slice Try.underlying22 (hval 0 22 v0 rfl rfl)
  have k0 := h0
  have lt0 : ∀ x ∈ p0, x.block < W.heap.size := by obtain ⟨m, hm⟩ := k0; exact DataW.trod_lt m _ _ _ hm
  obtain ⟨fuel0, hf0⟩ := h0
  obtain ⟨x0, ⟨A0, c0, e0, hc0, hr0⟩, ok0⟩ := Op.opens_slice (n := 38) Try.underlying22 (by kernel_rfl) (W8.opens_w8) H enc W 0 _ _ _ _ _ hf0
  obtain ⟨rfl, rfl, rfl⟩ : a0 = A0 ∧ len0 = x0.length ∧ cap0 = c0 := by simpa [Value.cells] using e0
  obtain ⟨a1, len1, cap1, rfl⟩ := okWide_slice Try.underlying22 (hval 1 22 v1 rfl rfl)
  have k1 := h1
  have lt1 : ∀ x ∈ p1, x.block < W.heap.size := by obtain ⟨m, hm⟩ := k1; exact DataW.trod_lt m _ _ _ hm
  obtain ⟨fuel1, hf1⟩ := h1
  obtain ⟨x1, ⟨A1, c1, e1, hc1, hr1⟩, ok1⟩ := Op.opens_slice (n := 38) Try.underlying22 (by kernel_rfl) (W8.opens_w8) H enc W 0 _ _ _ _ _ hf1
  obtain ⟨rfl, rfl, rfl⟩ : a1 = A1 ∧ len1 = x1.length ∧ cap1 = c1 := by simpa [Value.cells] using e1
  obtain ⟨a2, len2, cap2, rfl⟩ := okWide_slice Try.underlying23 (hval 2 23 v2 rfl rfl)
  have k2 := h2
  have lt2 : ∀ x ∈ p2, x.block < W.heap.size := by obtain ⟨m, hm⟩ := k2; exact DataW.trod_lt m _ _ _ hm
  obtain ⟨fuel2, hf2⟩ := h2
  obtain ⟨x2, ⟨A2, c2, e2, hc2, hr2⟩, ok2⟩ := Op.opens_slice (n := 27) Try.underlying23 (by kernel_rfl) (Op.opens_slice (n := 3) Try.underlying27 (by kernel_rfl) (Op.opens_int Try.underlying3)) H enc W 0 _ _ _ _ _ hf2
  obtain ⟨rfl, rfl, rfl⟩ : a2 = A2 ∧ len2 = x2.length ∧ cap2 = c2 := by simpa [Value.cells] using e2
  clear hA0 hval0
  refine (walk W _ _ x0 hc0 hr0 ok0 _ _ x1 hc1 hr1 ok1 _ _ x2 hc2 hr2 ok2).mono fun e W' ⟨he, bel⟩ => ?_
  subst he
  exact ⟨_, rfl, _, _, _, [], _, [], hW', trodAll_mk1 (shut_bool Try.underlying4 _), (trodAll_cons_mk (Below.trod laidOut (by kernel_rfl) (of_decide_eq_true (by kernel_rfl)) k0 bel lt0) (trodAll_cons_mk (Below.trod laidOut (by kernel_rfl) (of_decide_eq_true (by kernel_rfl)) k1 bel lt1) (trodAll_cons_mk (Below.trod laidOut (by kernel_rfl) (of_decide_eq_true (by kernel_rfl)) k2 bel lt2) trodAll_mk0))), rfl, bel.frame _, fun h => by cases h⟩
theorem over : Rows.closureMoreRow.holds Try.pinned (OpenSpec.ofChange Rows.closureMoreSpec) :=
  OpenClaim.holds_of_wide 4 Try.f4 rfl rfl rfl rfl rfl rfl rfl ⟨rfl, rfl, rfl, rfl, rfl⟩ rfl rfl rfl rfl rfl (by kernel_rfl) Try.func4 (by kernel_rfl)
    (of_decide_eq_true (by kernel_rfl)) (by unfold Func.isWrapper; first | (rw [if_pos (by decide +kernel)]; kernel_rfl) | (rw [if_neg (by decide +kernel)]; exact ⟨rfl, rfl⟩))
    (fun os started H enc _ => lifted os started H enc)
theorem proved : Rows.ClosureMoreSaid := over
#print axioms proved
end Go.Proofs.Ytgkjhnilgmokiaa.closureMore
