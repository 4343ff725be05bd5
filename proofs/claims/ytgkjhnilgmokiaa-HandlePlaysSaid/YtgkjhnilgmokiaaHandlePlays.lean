/-
  Of HandlePlays: any calls; the table and the reference's handles side by side, and what both tell at the end.
-/
import Derived.Test.YtgkjhnilgmokiaaRows
import Derived.WalkKit
import Derived.WalkSpells
import Derived.WalkLawsBesides
import Derived.WalkMore
import Derived.ProofKit
import Derived.OpenShut
import Derived.ShutString
import Derived.ChangeOld
import Derived.Below
import Derived.SizedLaws
import Derived.Lib.Hide
import Derived.Test.YtgkjhnilgmokiaaOpen
import Derived.Test.YtgkjhnilgmokiaaHp
import Derived.Deep.RegionHeld3
namespace Go.Proofs.Ytgkjhnilgmokiaa.handlePlays
open Go.RowKit Go.ChangeShapes Go.WideShapes Go.ChangeAt Go.Proofs.YtgkjhnilgmokiaaW.PrintWords
set_option linter.unusedVariables false
open Ha Re Hp
set_option maxHeartbeats 8000000 in
set_option maxRecDepth 20000 in
theorem walk (w : World) (A0 : Option Addr) (c0 : Nat) (x0 : List Hp.C4) (hc0 : x0.length ≤ c0) (hr0 : Kd.C Hp.k4 w A0 x0.length x0) (ok0 : x0.length ≤ maxLen ∧ ∀ y ∈ x0, Hp.okC y) :
    Calls Try.prog 11 #[.slice A0 x0.length c0] w fun e w' => e = .returned (.bool true) ∧ Below w.heap.size w w' := by
  have HR := Lib.hid hr0
  have HO := Lib.hid ok0
  clear hr0 ok0
  obtain ⟨i0, hi0, hz0, hz1, hz2⟩ := info_parts info3
  go_enter Try.func11, Try.ntmps11
  go_wp2_with fail
  refine (new_any _).mono ?_
  rintro e w' ⟨rfl, rfl⟩
  have h0 : Tab (w.alloc (.cells tab0 76)) w.heap.size (fun _ => 0) (fun _ => false) (fun _ => 0) := heap_alloc_new w _
  have hb0 : Below w.heap.size w (w.alloc (.cells tab0 76)) := (Below.refl _ _).alloc (Nat.le_refl _) _
  have HT := Lib.hid h0
  clear h0
  have hz : ∀ w, (zeroValue 63).run Try.prog w = .ok (.agg tabR0) w := fun w => by kernel_rfl
  have HS := Lib.hid (st0 w)
  clear HT
  go_wp2
  clear hz
  go_loopw [5, 6] (fun s i wr => ∃ k : Nat, k ≤ x0.length ∧ k ≤ 200 ∧ i = .int .i64 (k : Int) ∧ St w wr k s) (fun _ i _ => 200 - (intOf i).toNat)
  case atStart => exact ⟨0, by omega, by omega, rfl, HS.out⟩
  case round =>
    obtain ⟨k, hk, hk2, rfl, o, o', u, a, l, h1, h2, h3, h4, h5, hlk, h6, hb⟩ := hrel
    have hT := Lib.hid h1
    have hRT := Lib.hid h2
    have hoo := Lib.hid h3
    have ha := Lib.hid h4
    have hl := Lib.hid h5
    have hlr := Lib.hid h6
    clear h1 h2 h3 h4 h5 h6 HS
    by_cases hlt : k < x0.length ∧ k < 200
    · obtain ⟨ad, rfl, q0, q1, q2, q3⟩ := at_C4 (Kd.C_below HR.out hb) k hlt.1
      have hok : okC (x0.getD k z4) := by
        have := HO.out.2 (x0.getD k z4)
        refine this ?_
        rw [List.getD_eq_getElem?_getD, List.getElem?_eq_getElem hlt.1]
        exact List.getElem_mem hlt.1
      generalize x0.getD k z4 = x at q0 q1 q2 q3 hok
      have hl1 := hlt.1
      have hl2 := hlt.2
      clear hlt
      obtain ⟨f0, f1, f2, f3⟩ := x
      dsimp only at q0 q1 q2 q3
      have hOK : f1 ≤ 9223372036854775807 := le_of_wf hok.2.1
      clear hok HR HO
      have hC := Lib.hid (cb_new wr f0 f1 f2 f3)
      have T0 := Lib.hid (tab_alloc hT.out (.cells #[.int .i64 f0, .int .i64 f1, .int .i64 f2, .bool f3] 44))
      have R0 := Lib.hid (hRT.out.alloc (.cells #[.int .i64 f0, .int .i64 f1, .int .i64 f2, .bool f3] 44))
      have hsz : w.heap.size + 2 ≤ wr.heap.size := (Array.getElem?_eq_some_iff.1 hRT.out).1
      have b0 := hb.alloc hb.size (.cells #[.int .i64 f0, .int .i64 f1, .int .i64 f2, .bool f3] 44)
      have L0 := hl.out.alloc (.cells #[.int .i64 f0, .int .i64 f1, .int .i64 f2, .bool f3] 44)
      obtain ⟨_, A5, c5, rfl, hrd⟩ := own_int L0
      have hcase := said_h l f1 f3 hOK (by omega) hlr.out
      have L0 := Lib.hid L0
      have HRD := Lib.hid hrd
      clear hrd hT hRT hl hb
      have key : ∀ e0 e1 e2 : Bool, (f0 == 0) = e0 → (f0 == 1) = e1 → (f0 == 2) = e2 → (e0 = true ∨ (e0 = false ∧ e1 = true) ∨ (e0 = false ∧ e1 = false ∧ e2 = true) ∨ (e0 = false ∧ e1 = false ∧ e2 = false)) := by
        intro e0 e1 e2 _ _ _; cases e0 <;> cases e1 <;> cases e2 <;> simp
      have HK := key _ _ _ rfl rfl rfl
      clear key
      obtain ⟨hv, hv1, hcase⟩ := hcase
      rcases HK with e0 | ⟨e0, e1⟩ | ⟨e0, e1, e2⟩ | ⟨e0, e1, e2⟩
      · rcases hcase with ⟨rfl, rfl⟩ | ⟨rfl, hln, rfl⟩ | ⟨rfl, hl0, d, hd, he, hev⟩
        rotate_left
        have hl0 : ¬ 0 < l.length := by rw [hln]; exact Nat.lt_irrefl 0
        clear hln
        rotate_left
        obtain ⟨ad5, rfl, hcl⟩ := HRD.out d hd
        rw [← hev] at hcl
        clear hev
        all_goals
          clear HRD
          go_wp2_with fail
          rcases least_free u 64 with hfull | ⟨m, hm, hum, hml⟩
          · refine (put_full _ _ _ _ f2 _ T0.out hfull).mono ?_
            rintro e w1 ⟨rfl, rfl⟩
            go_wp2_with fail
            refine (rput_full _ _ _ _ f2 _ R0.out hfull).mono ?_
            rintro e w1 ⟨rfl, rfl⟩
            have cne : ∀ z : Int, (z != z) = false := fun z => by rw [bne_eq_false_iff_eq]
            go_wp2_with (at_builtin; refine wpList_append_own _ rfl (.tmp 95) (.tmp 97) _ rfl (w.heap.size + 2) 3 i0 (.int .i64 0) 1 8 Try.underlying27 hi0 hz0 hz1 hz2 rfl (by decide) _ _ _ rfl (L0.out.alloc _) ⟨wr.heap.size + 1, 0, none⟩ 1 1 [.int .i64 0] rfl rfl ?c1 ?c2 ?c3 ?c4 ?c5 ?_)
            case c1 => exact cell_two _ _ _ _
            case c2 => intro v hv; simp only [List.mem_singleton] at hv; subst hv; rfl
            case c3 => simp only [maxLen]; omega
            case c4 => omega
            case c5 => exact (by rw [size_al, size_al]; omega)
            intro v' w4 ho1 hg1 _
            have SN := Lib.hid (st_append T0.out R0.out hoo.out ha.out L0.out hlk hlr.out b0 ⟨by decide, by decide⟩ ho1 hg1)
            clear ho1 hg1
            go_wp2
            go_roundw
            case rel => exact ⟨k + 1, by omega, by omega, by go_num, SN.out⟩
            case measure => simp [intOf]; omega
          · have ham := ha.out m
            refine (put_free _ _ _ _ f2 _ T0.out m hm hum hml ham.1 (by omega)).mono ?_
            rintro e w1 ⟨rfl, T1, g1⟩
            have R1 := R0.out.keep g1 (by intro e; injection e with e; omega)
            have C1 := Lib.hid (hC.out.keep g1 (by intro e; injection e with e; omega))
            have c2 := C1.out.c2
            have L1 := own_keep L0.out g1 (by omega)
            have b1 := b0.grown g1 b0.size own'
            clear g1
            have T1 := Lib.hid T1
            have R1 := Lib.hid R1
            have L1 := Lib.hid L1
            go_wp2_with fail
            refine (rput_free _ _ _ _ f2 _ R1.out m hm hum hml ham.1 (by omega)).mono ?_
            rintro e w2 ⟨rfl, R2, g2⟩
            have T2 := Lib.hid (tab_keep T1.out g2 (by intro e; injection e with e; omega))
            have L2 := own_keep L1.out g2 (by omega)
            have b2 := b1.grown g2 b1.size (fun k hk => by injection hk with hk; omega)
            have R2 := Lib.hid R2
            have L2 := Lib.hid L2
            clear g2
            have cne : ∀ z : Int, (z != z) = false := fun z => by rw [bne_eq_false_iff_eq]
            go_wp2_with (at_builtin; refine wpList_append_own _ rfl (.tmp 95) (.tmp 97) _ rfl (w.heap.size + 2) 3 i0 (.int .i64 0) 1 8 Try.underlying27 hi0 hz0 hz1 hz2 rfl (by decide) _ _ _ rfl (L2.out.alloc _) ⟨w2.heap.size, 0, none⟩ 1 1 [.int .i64 ((m : Int) + 64 * a m)] rfl rfl ?c1 ?c2 ?c3 ?c4 ?c5 ?_)
            case c1 => exact cell_one_new _ _ _
            case c2 => intro v hv; simp only [List.mem_singleton] at hv; subst hv; rfl
            case c3 => simp only [maxLen]; omega
            case c4 => omega
            case c5 => exact (by rw [size_al]; have := (Array.getElem?_eq_some_iff.1 R2.out).1; omega)
            intro v' w4 ho1 hg1 _
            have SN := Lib.hid (st_append T2.out R2.out (upd_oo hoo.out m f2) ha.out L2.out hlk hlr.out b2 ⟨by omega, by omega⟩ ho1 hg1)
            clear ho1 hg1
            go_wp2
            go_roundw
            case rel => exact ⟨k + 1, by omega, by omega, by go_num, SN.out⟩
            case measure => simp [intOf]; omega
      · rcases hcase with ⟨rfl, rfl⟩ | ⟨rfl, hln, rfl⟩ | ⟨rfl, hl0, d, hd, he, hev⟩
        rotate_left
        have hl0 : ¬ 0 < l.length := by rw [hln]; exact Nat.lt_irrefl 0
        clear hln
        rotate_left
        obtain ⟨ad5, rfl, hcl⟩ := HRD.out d hd
        rw [← hev] at hcl
        clear hev
        all_goals
          clear HRD
          go_wp2_with fail
          have cne : ∀ z : Int, (z != z) = false := fun z => by rw [bne_eq_false_iff_eq]
          rcases slot_dec hv u a hv1 with ⟨m, hs, hu⟩ | hno
          · refine (get_yes _ _ _ _ hv m _ T0.out hs hu).mono ?_
            rintro e w1 ⟨rfl, rfl⟩
            go_wp2_with fail
            refine (rget_yes _ _ _ _ hv m _ R0.out hs hu).mono ?_
            rintro e w1 ⟨rfl, rfl⟩
            rw [hoo.out m hs.2.1 hu]
            have SN := Lib.hid (st_same T0.out R0.out hoo.out (age_next ha.out) L0.out hlk hlr.out b0)
            clear hs hu
            go_wp2
            go_roundw
            case rel => exact ⟨k + 1, by omega, by omega, by go_num, SN.out⟩
            case measure => simp [intOf]; omega
          · refine (get_no _ _ _ _ hv _ T0.out hno).mono ?_
            rintro e w1 ⟨rfl, rfl⟩
            go_wp2_with fail
            refine (rget_no _ _ _ _ hv _ R0.out hno).mono ?_
            rintro e w1 ⟨rfl, rfl⟩
            have SN := Lib.hid (st_same T0.out R0.out hoo.out (age_next ha.out) L0.out hlk hlr.out b0)
            clear hno
            go_wp2
            go_roundw
            case rel => exact ⟨k + 1, by omega, by omega, by go_num, SN.out⟩
            case measure => simp [intOf]; omega
      · rcases hcase with ⟨rfl, rfl⟩ | ⟨rfl, hln, rfl⟩ | ⟨rfl, hl0, d, hd, he, hev⟩
        rotate_left
        have hl0 : ¬ 0 < l.length := by rw [hln]; exact Nat.lt_irrefl 0
        clear hln
        rotate_left
        obtain ⟨ad5, rfl, hcl⟩ := HRD.out d hd
        rw [← hev] at hcl
        clear hev
        all_goals
          clear HRD
          go_wp2_with fail
          have cne : ∀ z : Int, (z != z) = false := fun z => by rw [bne_eq_false_iff_eq]
          rcases slot_dec hv u a hv1 with ⟨m, hs, hu⟩ | hno
          · have ham := ha.out m
            refine (drop_yes _ _ _ _ hv m _ T0.out hs hu ham.1 (by omega)).mono ?_
            rintro e w1 ⟨rfl, T1, g1⟩
            have R1 := R0.out.keep g1 (by intro e; injection e with e; omega)
            have L1 := own_keep L0.out g1 (by omega)
            have b1 := b0.grown g1 b0.size own'
            clear g1
            have T1 := Lib.hid T1
            have R1 := Lib.hid R1
            have L1 := Lib.hid L1
            go_wp2_with fail
            refine (rdrop_yes _ _ _ _ hv m _ R1.out hs hu ham.1 (by omega)).mono ?_
            rintro e w2 ⟨rfl, R2, g2⟩
            have T2 := Lib.hid (tab_keep T1.out g2 (by intro e; injection e with e; omega))
            have L2 := own_keep L1.out g2 (by omega)
            have b2 := b1.grown g2 b1.size (fun k hk => by injection hk with hk; omega)
            have SN := Lib.hid (st_same T2.out R2 (drop_oo hoo.out m 0) (drop_age ha.out m) L2 hlk hlr.out b2)
            clear g2 R2 L2
            clear hs hu
            go_wp2
            go_roundw
            case rel => exact ⟨k + 1, by omega, by omega, by go_num, SN.out⟩
            case measure => simp [intOf]; omega
          · refine (drop_no _ _ _ _ hv _ T0.out hno).mono ?_
            rintro e w1 ⟨rfl, rfl⟩
            go_wp2_with fail
            refine (rdrop_no _ _ _ _ hv _ R0.out hno).mono ?_
            rintro e w1 ⟨rfl, rfl⟩
            have SN := Lib.hid (st_same T0.out R0.out hoo.out (age_next ha.out) L0.out hlk hlr.out b0)
            clear hno
            go_wp2
            go_roundw
            case rel => exact ⟨k + 1, by omega, by omega, by go_num, SN.out⟩
            case measure => simp [intOf]; omega
      · rcases hcase with ⟨rfl, hev⟩ | ⟨rfl, hln, hev⟩ | ⟨rfl, hl0, d, hd, he, hev⟩
        clear hev
        rotate_left
        have hl0 : ¬ 0 < l.length := by rw [hln]; exact Nat.lt_irrefl 0
        clear hln hev
        rotate_left
        obtain ⟨ad5, rfl, hcl⟩ := HRD.out d hd
        rw [← hev] at hcl
        clear hev
        all_goals
          clear HRD
          have BU := Lib.hid (Bun.mk T0.out R0.out hC.out L0.out b0 hsz)
          have hmn := Lib.hid (movN_eq f2 64 hoo.out)
          have cne : ∀ z : Int, (z != z) = false := fun z => by rw [bne_eq_false_iff_eq]
          go_wp2
          go_region_held3 (fun w' => w'.cell? ⟨wr.heap.size, 1, none⟩ = some (.int .i64 f1) ∧ w'.cell? ⟨wr.heap.size, 2, none⟩ = some (.int .i64 f2))
            (first | exact ⟨B2.out.Q.c1, B2.out.Q.c2⟩ | exact ⟨B1.out.Q.c1, B1.out.Q.c2⟩ | exact ⟨BU.out.drew.Q.c1, BU.out.drew.Q.c2⟩)
            (first
              | (go_at_call 26; refine (bun_move _ _ BU.out.drew).mono ?_; rintro e w1 ⟨rfl, B1⟩; have B1 := Lib.hid B1)
              | (go_at_call 31; refine (bun_rmove _ _ B1.out).mono ?_; rw [← hmn.out]; rintro e w2 ⟨rfl, B2⟩; have B2 := Lib.hid B2))
          have SN := Lib.hid (st_same B2.out.T B2.out.R (fun i hi hu => movO_eq f2 _ hoo.out i hi hu) (age_next ha.out) B2.out.L hlk hlr.out B2.out.B)
          go_wp2
          go_roundw
          case rel => exact ⟨k + 1, by omega, by omega, by go_num, SN.out⟩
          case measure => simp [intOf]; omega
    · have hx : x0.length ≤ k ∨ (k < x0.length ∧ 200 ≤ k) := by omega
      have hall := allL_eq 64 hoo.out
      have T0 := Lib.hid hT.out
      have hsz : w.heap.size + 1 < wr.heap.size := (Array.getElem?_eq_some_iff.1 hRT.out).1
      clear hlt hT hoo ha hl hlr hlk hb0
      rcases hx with hx | ⟨hx1, hx2⟩
      all_goals
        go_wp2_with fail
        refine (rall_any _ _ _ _ _ hRT.out).mono ?_
        rintro e w1 ⟨v1, rfl, ho1, hb1⟩
        obtain ⟨_, A1, c1, rfl, hr1⟩ := own_int ho1
        have T1 := Lib.hid (tab_below T0.out hb1)
        have O1 := Lib.hid ho1
        have hlen := allL_le o' u 64
        clear ho1 hr1
        go_wp2_with fail
        refine (len_any _ _ _ _ _ T1.out).mono ?_
        rw [hall]
        rintro e w2 ⟨rfl, hb2⟩
        have T2 := Lib.hid (tab_below T1.out hb2)
        have O2 := Lib.hid (own_below O1.out hb2 (Nat.le_refl _))
        have cee : ∀ z : Int, (z == z) = true := fun z => by rw [beq_iff_eq]
        clear O1
        go_wp2_with fail
        refine (all_any _ _ _ _ _ T2.out).mono ?_
        rw [hall]
        rintro e w3 ⟨v3, rfl, ho3, hb3⟩
        obtain ⟨_, A3, c3, rfl, hr3⟩ := own_int ho3
        obtain ⟨_, A1', c1', he, hr1⟩ := own_int (own_below O2.out hb3 (Nat.le_refl _))
        injection he with he1 _ he3
        subst he1 he3
        clear ho3 O2
        have H3 := Lib.hid hr3
        have H1 := Lib.hid hr1
        clear hr1 hr3
        go_wp2_with fail
        refine (same_yes _ _ _ _ _ _ (by omega) H3.out H1.out).mono ?_
        rintro e w4 ⟨rfl, hb4⟩
        go_wp2_with fail
        refine (awake_any _).mono ?_
        rintro e w5 ⟨rfl, hb5⟩
        have f1 := hb.trans (hb1.mono hb.size)
        have f2 := f1.trans (hb2.mono f1.size)
        have f3 := f2.trans (hb3.mono f2.size)
        have f4 := f3.trans (hb4.mono f3.size)
        have f5 := f4.trans (hb5.mono f4.size)
        go_wp2
        go_ret
        exact ⟨rfl, f5⟩

theorem own : ownKnob Try.prog.godebug = none := by kernel_rfl
theorem laidOut : laidOutB Try.prog = true := by kernel_rfl
set_option maxRecDepth 100000 in
theorem lifted (os : Os) (started : os.Started) (H : Type) (enc : TypeId × Value → H) :
    ReturnsInHanded {} Try.checked os 11 .any (Rows.handlePlaysSpec.pre6 enc Try.prog Try.f11 Rows.handlePlaysRow.domain false) (Rows.handlePlaysSpec.post enc Try.prog Try.f11 false true false false) := by
  refine returnsInHanded_of_change (C := Try.checked) own started (by kernel_rfl) Try.func11
    (ChangeSpec.witness6 (enc := enc) (C := Try.checked) false ⟨#[], #[.slice none 0 0], []⟩ 8 (by kernel_rfl) (by kernel_rfl) (by kernel_rfl) (by kernel_rfl)) ?_
  intro W base args ds gs before hval0 hW hcnd _
  have hval : ∀ (j : Nat) t v, Try.f11.params[j]? = some t → args[j]? = some v → Value.okWide Try.prog W .any base t v := hval0
  have hW' := hW
  obtain ⟨p, q, hA0, hV, rfl, hfz, hnd⟩ := hW
  have hA : DataW.TrodAll enc Try.prog W 0 (fun _ => true) true Try.f11.params.toList args.toList ds p := hA0
  rw [Try.params11] at hA hval
  obtain ⟨v0, vs0, d0, ds0, p0, q0, hargs, rfl, rfl, h0, r0⟩ := trodAll_cons hA
  obtain ⟨rfl, rfl, rfl⟩ := trodAll_nil r0
  obtain rfl : args = #[v0] := by cases args; simp_all
  obtain ⟨rfl, rfl⟩ := trodVars_none hV
  obtain ⟨a0, len0, cap0, rfl⟩ := okWide_slice Try.underlying40 (hval 0 40 v0 rfl rfl)
  have k0 := h0
  have lt0 : ∀ x ∈ p0, x.block < W.heap.size := by obtain ⟨m, hm⟩ := k0; exact DataW.trod_lt m _ _ _ hm
  obtain ⟨fuel0, hf0⟩ := h0
  obtain ⟨x0, ⟨A0, c0, e0, hc0, hr0⟩, ok0⟩ := Op.opens_slice (n := 44) Try.underlying40 (by kernel_rfl) (Hp.opens_call) H enc W 0 _ _ _ _ _ hf0
  obtain ⟨rfl, rfl, rfl⟩ : a0 = A0 ∧ len0 = x0.length ∧ cap0 = c0 := by simpa [Value.cells] using e0
  clear hA0 hval0
  refine (walk W _ _ x0 hc0 hr0 ok0).mono fun e W' ⟨he, bel⟩ => ?_
  subst he
  exact ⟨_, rfl, _, _, _, [], _, [], hW', trodAll_mk1 (shut_bool Try.underlying4 _), (trodAll_cons_mk (Below.trod laidOut (by kernel_rfl) (of_decide_eq_true (by kernel_rfl)) k0 bel lt0) trodAll_mk0), rfl, bel.frame _, fun h => by cases h⟩
theorem over : Rows.handlePlaysRow.holds Try.pinned (OpenSpec.ofChange Rows.handlePlaysSpec) :=
  OpenClaim.holds_of_wide 11 Try.f11 rfl rfl rfl rfl rfl rfl rfl ⟨rfl, rfl, rfl, rfl, rfl⟩ rfl rfl rfl rfl rfl (by kernel_rfl) Try.func11 (by kernel_rfl)
    (of_decide_eq_true (by kernel_rfl)) (by unfold Func.isWrapper; first | (rw [if_pos (by decide +kernel)]; kernel_rfl) | (rw [if_neg (by decide +kernel)]; exact ⟨rfl, rfl⟩))
    (fun os started H enc _ => lifted os started H enc)
theorem proved : Rows.HandlePlaysSaid := over
#print axioms proved
end Go.Proofs.Ytgkjhnilgmokiaa.handlePlays
