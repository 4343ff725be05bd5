/-
  Any words as super words: the config that they say, or that they are none.
-/
import Derived.Test.YtlmlckidgfnhdaaRows
import Derived.WalkKit
import Derived.WalkSpells
import Derived.WalkLawsBesides
import Derived.WalkMore
import Derived.ProofKit
import Derived.OpenShut
import Derived.ShutString
import Derived.ChangeOld
import Derived.Below
import Derived.SizedLaws
import Derived.Lib.Hide
import Derived.Test.YtlmlckidgfnhdaaOpen
import Derived.Test.YtlmlckidgfnhdaaPr
import Derived.Test.YtlmlckidgfnhdaaSc
import Derived.Test.YtlmlckidgfnhdaaAw
namespace Go.Proofs.Ytlmlckidgfnhdaa.layoutParses
open Go.RowKit Go.ChangeShapes Go.WideShapes Go.ChangeAt Go.Proofs.YtlmlckidgfnhdaaW.PrintWords
set_option linter.unusedVariables false
open Go.Proofs.Ytlmlckidgfnhdaa.Ba Go.Proofs.Ytlmlckidgfnhdaa.Pc Go.Proofs.Ytlmlckidgfnhdaa.Wd Go.Proofs.Ytlmlckidgfnhdaa.Kp Go.Proofs.Ytlmlckidgfnhdaa.Pp
set_option maxHeartbeats 16000000
set_option maxRecDepth 100000
theorem kds_small (ws : List Nat) (n : Nat) : ∀ x ∈ kds ws n, x.length ≤ 1000 := by
  induction n with
  | zero => intro x hx; cases hx
  | succ n ih =>
    intro x hx
    rcases List.mem_append.1 (show x ∈ kds ws n ++ [fl (ws.getD (9 + n) 0)] from hx) with h | h
    · exact ih x h
    · rw [List.mem_singleton.1 h]
      unfold fl
      rw [flds_len]
      omega
theorem words_of {w : World} {A : Option Addr} {xs : List Int} (h : Kd.C (Kd.int .u64) w A xs.length xs) (hw : ∀ y ∈ xs, (Lit.int .u64 y).wf = true) :
    ∃ ws : List Nat, ws.length = xs.length ∧ WR w A ws ∧ ∀ y ∈ ws, y < 18446744073709551616 := by
  have hb : ∀ y ∈ xs, 0 ≤ y ∧ y < 18446744073709551616 := by
    intro y hy
    have := hw y hy
    simp [Lit.wf, IntKind.min, IntKind.max, IntKind.signed, IntKind.bits] at this
    omega
  refine ⟨xs.map Int.toNat, List.length_map _, fun i hi => ?_, fun y hy => ?_⟩
  · rw [List.length_map] at hi
    obtain ⟨ad, e, hc⟩ := Kd.at_int h i (by omega) (by omega)
    rw [Int.toNat_natCast] at hc
    refine ⟨ad, e, ?_⟩
    have hy := hb _ (mem_getD (d := (0 : Int)) hi)
    have hc' : w.cell? (ad.add i) = some (.int .u64 (xs.getD i 0)) := hc
    have e2 : (xs.map Int.toNat).getD i 0 = (xs.getD i 0).toNat := by
      rw [List.getD_eq_getElem?_getD, List.getD_eq_getElem?_getD, List.getElem?_map, List.getElem?_eq_getElem hi]
      rfl
    rw [hc', e2, Int.toNat_of_nonneg hy.1]
  · obtain ⟨z, hz, rfl⟩ := List.mem_map.1 hy
    have := hb z hz
    omega
theorem walk (w : World) (A0 : Option Addr) (c0 : Nat) (x0 : List Int) (hc0 : x0.length ≤ c0) (hr0 : Kd.C (Kd.int .u64) w A0 x0.length x0) (ok0 : x0.length ≤ maxLen ∧ ∀ y ∈ x0, (Lit.int .u64 y).wf = true) :
    Calls Try.prog 4 #[.slice A0 x0.length c0] w fun e w' => e = .returned (.bool true) ∧ Below w.heap.size w w' := by
  obtain ⟨ws, hlw, hwr, hbd⟩ := words_of hr0 ok0.2
  rw [← hlw] at hc0 ⊢
  clear hr0 ok0 hlw
  have hz25 : ∀ w, (zeroValue 25).run Try.prog w = .ok (.agg #[.slice none 0 0, .int .i64 0, .int .i64 0, .int .i64 0, .int .i64 0, .int .i64 0, .int .i64 0, .int .i64 0]) w := fun w => by kernel_rfl
  have HWR := Lib.hid hwr
  have HBD := Lib.hid hbd
  clear hwr hbd
  by_cases h100 : 100 < ws.length
  · go_enter Try.func4, Try.ntmps4
    go_wp2_with fail
    refine (Aw.awake_any _).mono ?_
    rintro e w1 ⟨rfl, hb1⟩
    go_wp2
    go_ret
    exact ⟨rfl, hb1⟩
  have HP := Lib.hid (Pa.parse_any A0 c0 ws w HWR.out (by omega) hc0 HBD.out)
  have HQ := Lib.hid (fun (W : World) (h : WR W A0 ws) => Pr.rparse_any A0 c0 ws W h (by omega) hc0 HBD.out)
  have HKS : Hid (Ok ws → (cfW ws).ks.length ≤ 1000 ∧ ∀ x ∈ (cfW ws).ks, x.length ≤ 1000) := Lib.hid (fun o => ⟨by have h1 := o.kn; have e : (cfW ws).ks.length = kN ws := kds_len ws _; omega, kds_small ws _⟩)
  go_enter Try.func4, Try.ntmps4
  go_wp2_with fail
  refine HP.out.mono ?_
  rintro e w1 ⟨hb1, ⟨ho, A1, k1, rfl, hk1, hl1⟩ | ⟨hno, rfl⟩⟩
  · have HO := Lib.hid ho
    obtain ⟨hk16, hf16⟩ := HKS.out ho
    obtain ⟨⟨ks, b0, b1, b2, b3, ro, we, lg⟩, hC⟩ : ∃ C, cfW ws = C := ⟨_, rfl⟩
    rw [hC] at hk1 hl1 hk16 hf16 ⊢
    have HCE := Lib.hid hC
    dsimp only at hk1 hl1 hk16 hf16 ⊢
    have HK1 := Lib.hid hk1
    have HF16 := Lib.hid hf16
    have hba := hb1.alloc hb1.size (.cells #[.slice A1 ks.length k1, .int .i64 b0, .int .i64 b1, .int .i64 b2, .int .i64 b3, .int .i64 ro, .int .i64 we, .int .i64 lg] 25)
    have HBA := Lib.hid hba
    have HX1 := Lib.hid (heap_alloc_new w1 (.cells #[.slice A1 ks.length k1, .int .i64 b0, .int .i64 b1, .int .i64 b2, .int .i64 b3, .int .i64 ro, .int .i64 we, .int .i64 lg] 25))
    have HKA := Lib.hid (hk1.old ((Below.refl _ _).alloc (Nat.le_refl _) (.cells #[.slice A1 ks.length k1, .int .i64 b0, .int .i64 b1, .int .i64 b2, .int .i64 b3, .int .i64 ro, .int .i64 we, .int .i64 lg] 25)).block)
    have HQ1 := Lib.hid (HQ.out _ ((HWR.out.old hba.block)))
    clear ho hb1 hk1 hf16 hC hba
    go_wp2_with fail
    refine HQ1.out.mono ?_
    rintro e w2 ⟨hb2, ⟨_, A2, k2, rfl, hk2, hl2⟩ | ⟨hno, _⟩⟩
    · rw [HCE.out] at hk2 hl2 ⊢
      dsimp only at hk2 hl2 ⊢
      have HB2 := Lib.hid ((HBA.out.trans (hb2.mono HBA.out.size)).alloc (HBA.out.trans (hb2.mono HBA.out.size)).size (.cells #[.slice A2 ks.length k2, .int .i64 b0, .int .i64 b1, .int .i64 b2, .int .i64 b3, .int .i64 ro, .int .i64 we, .int .i64 lg] 25))
      have HX2 := Lib.hid (blk_alloc (blk_below HX1.out hb2) (.cells #[.slice A2 ks.length k2, .int .i64 b0, .int .i64 b1, .int .i64 b2, .int .i64 b3, .int .i64 ro, .int .i64 we, .int .i64 lg] 25))
      have hbl := ((Below.refl w2.heap.size w2).alloc (Nat.le_refl _) (.cells #[.slice A2 ks.length k2, .int .i64 b0, .int .i64 b1, .int .i64 b2, .int .i64 b3, .int .i64 ro, .int .i64 we, .int .i64 lg] 25)).block
      have HSC := Lib.hid (Sc2.samecfg_self A1 A2 k1 k2 ks b0 b1 b2 b3 ro we lg _ ((HKA.out.old hb2.block).old hbl) (hk2.old hbl) hk16 HF16.out)
      obtain ⟨p0, p1, p2, p3, p4, p5, p6, p7⟩ := cells8 HX2.out
      clear hb2 hk2 hbl
      go_wp2_with fail
      refine HSC.out.mono ?_
      rintro e w3 ⟨rfl, hb3⟩
      have HB3 := Lib.hid (HB2.out.trans (hb3.mono HB2.out.size))
      clear hb3 p0 p1 p2 p3 p4 p5 p6 p7
      go_wp2_with fail
      refine (Aw.awake_any _).mono ?_
      rintro e w4 ⟨rfl, hb4⟩
      have HB4 := Lib.hid (HB3.out.trans (hb4.mono HB3.out.size))
      clear hb4
      go_wp2
      go_ret
      exact ⟨rfl, HB4.out⟩
    · exact absurd HO.out hno
  · have HNO := Lib.hid hno
    have hba := hb1.alloc hb1.size (.cells #[.slice none 0 0, .int .i64 0, .int .i64 0, .int .i64 0, .int .i64 0, .int .i64 0, .int .i64 0, .int .i64 0] 25)
    have HBA := Lib.hid hba
    have HX1 := Lib.hid (heap_alloc_new w1 (.cells #[.slice none 0 0, .int .i64 0, .int .i64 0, .int .i64 0, .int .i64 0, .int .i64 0, .int .i64 0, .int .i64 0] 25))
    have HQ1 := Lib.hid (HQ.out _ ((HWR.out.old hba.block)))
    clear hno hb1 hba
    go_wp2_with fail
    refine HQ1.out.mono ?_
    rintro e w2 ⟨hb2, ⟨ho, _⟩ | ⟨_, rfl⟩⟩
    · exact absurd ho HNO.out
    · have HB2 := Lib.hid ((HBA.out.trans (hb2.mono HBA.out.size)).alloc (HBA.out.trans (hb2.mono HBA.out.size)).size (.cells #[.slice none 0 0, .int .i64 0, .int .i64 0, .int .i64 0, .int .i64 0, .int .i64 0, .int .i64 0, .int .i64 0] 25))
      have HX2 := Lib.hid (blk_alloc (blk_below HX1.out hb2) (.cells #[.slice none 0 0, .int .i64 0, .int .i64 0, .int .i64 0, .int .i64 0, .int .i64 0, .int .i64 0, .int .i64 0] 25))
      obtain ⟨p0, p1, p2, p3, p4, p5, p6, p7⟩ := cells8 HX2.out
      clear hb2
      go_wp2_with fail
      refine (Aw.awake_any _).mono ?_
      rintro e w4 ⟨rfl, hb4⟩
      have HB4 := Lib.hid (HB2.out.trans (hb4.mono HB2.out.size))
      clear hb4
      go_wp2
      go_ret
      exact ⟨rfl, HB4.out⟩

theorem own : ownKnob Try.prog.godebug = none := by kernel_rfl
theorem laidOut : laidOutB Try.prog = true := by kernel_rfl
set_option maxRecDepth 100000 in
theorem lifted (os : Os) (started : os.Started) (H : Type) (enc : TypeId × Value → H) :
    ReturnsInHanded {} Try.checked os 4 .any (Rows.layoutParsesSpec.pre6 enc Try.prog Try.f4 Rows.layoutParsesRow.domain false) (Rows.layoutParsesSpec.post enc Try.prog Try.f4 false true false false) := by
  refine returnsInHanded_of_change (C := Try.checked) own started (by kernel_rfl) Try.func4
    (ChangeSpec.witness6 (enc := enc) (C := Try.checked) false ⟨#[], #[.slice none 0 0], []⟩ 8 (by kernel_rfl) (by kernel_rfl) (by kernel_rfl) (by kernel_rfl)) ?_
  intro W base args ds gs before hval0 hW hcnd _
  have hval : ∀ (j : Nat) t v, Try.f4.params[j]? = some t → args[j]? = some v → Value.okWide Try.prog W .any base t v := hval0
  have hW' := hW
  obtain ⟨p, q, hA0, hV, rfl, hfz, hnd⟩ := hW
  have hA : DataW.TrodAll enc Try.prog W 0 (fun _ => true) true Try.f4.params.toList args.toList ds p := hA0
  rw [Try.params4] at hA hval
  obtain ⟨v0, vs0, d0, ds0, p0, q0, hargs, rfl, rfl, h0, r0⟩ := trodAll_cons hA
  obtain ⟨rfl, rfl, rfl⟩ := trodAll_nil r0
  obtain rfl : args = #[v0] := by cases args; simp_all
  obtain ⟨rfl, rfl⟩ := trodVars_none hV
  obtain ⟨a0, len0, cap0, rfl⟩ := okWide_slice Try.underlying37 (hval 0 37 v0 rfl rfl)
  have k0 := h0
  have lt0 : ∀ x ∈ p0, x.block < W.heap.size := by obtain ⟨m, hm⟩ := k0; exact DataW.trod_lt m _ _ _ hm
  obtain ⟨fuel0, hf0⟩ := h0
  obtain ⟨x0, ⟨A0, c0, e0, hc0, hr0⟩, ok0⟩ := Op.opens_slice (n := 30) Try.underlying37 (by kernel_rfl) (Op.opens_int Try.underlying30) H enc W 0 _ _ _ _ _ hf0
  obtain ⟨rfl, rfl, rfl⟩ : a0 = A0 ∧ len0 = x0.length ∧ cap0 = c0 := by simpa [Value.cells] using e0
  clear hA0 hval0
  refine (walk W _ _ x0 hc0 hr0 ok0).mono fun e W' ⟨he, bel⟩ => ?_
  subst he
  exact ⟨_, rfl, _, _, _, [], _, [], hW', trodAll_mk1 (shut_bool Try.underlying4 _), (trodAll_cons_mk (Below.trod laidOut (by kernel_rfl) (of_decide_eq_true (by kernel_rfl)) k0 bel lt0) trodAll_mk0), rfl, bel.frame _, fun h => by cases h⟩
theorem over : Rows.layoutParsesRow.holds Try.pinned (OpenSpec.ofChange Rows.layoutParsesSpec) :=
  OpenClaim.holds_of_wide 4 Try.f4 rfl rfl rfl rfl rfl rfl rfl ⟨rfl, rfl, rfl, rfl, rfl⟩ rfl rfl rfl rfl rfl (by kernel_rfl) Try.func4 (by kernel_rfl)
    (of_decide_eq_true (by kernel_rfl)) (by unfold Func.isWrapper; first | (rw [if_pos (by decide +kernel)]; kernel_rfl) | (rw [if_neg (by decide +kernel)]; exact ⟨rfl, rfl⟩))
    (fun os started H enc _ => lifted os started H enc)
theorem proved : Rows.LayoutParsesSaid := over
#print axioms proved
end Go.Proofs.Ytlmlckidgfnhdaa.layoutParses
