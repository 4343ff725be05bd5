/-
  Super words with one bit turned are those of another config, or of none.
-/
import Derived.Test.YtlmlckidgfnhdaaRows
import Derived.WalkKit
import Derived.WalkSpells
import Derived.WalkLawsBesides
import Derived.WalkMore
import Derived.ProofKit
import Derived.OpenShut
import Derived.ShutString
import Derived.ChangeOld
import Derived.Below
import Derived.SizedLaws
import Derived.Lib.Hide
import Derived.Test.YtlmlckidgfnhdaaOpen
import Derived.Test.YtlmlckidgfnhdaaMr
import Derived.Test.YtlmlckidgfnhdaaAw
import Derived.Test.YtlmlckidgfnhdaaPa
import Derived.Test.YtlmlckidgfnhdaaSg
import Derived.Test.YtlmlckidgfnhdaaTl
namespace Go.Proofs.Ytlmlckidgfnhdaa.layoutTold
open Go.RowKit Go.ChangeShapes Go.WideShapes Go.ChangeAt Go.Proofs.YtlmlckidgfnhdaaW.PrintWords
set_option linter.unusedVariables false
open Go.Proofs.Ytlmlckidgfnhdaa.Ba Go.Proofs.Ytlmlckidgfnhdaa.Kw Go.Proofs.Ytlmlckidgfnhdaa.Pl Go.Proofs.Ytlmlckidgfnhdaa.Pc Go.Proofs.Ytlmlckidgfnhdaa.My Go.Proofs.Ytlmlckidgfnhdaa.Nw Go.Proofs.Ytlmlckidgfnhdaa.Wd Go.Proofs.Ytlmlckidgfnhdaa.Wb Go.Proofs.Ytlmlckidgfnhdaa.Pp Go.Proofs.Ytlmlckidgfnhdaa.Su Go.Proofs.Ytlmlckidgfnhdaa.Tl
set_option maxHeartbeats 16000000
set_option maxRecDepth 100000
theorem modn (m : Int) (n : Nat) (h0 : 0 < n) (h1 : n ≤ 1000000) : ∃ d : Nat, d < n ∧ wrap64 ((IntKind.u64.wrap m).tmod (n : Int)) = (d : Int) := by
  have h2 : 0 ≤ m % 18446744073709551616 := Int.emod_nonneg _ (by omega)
  rw [IntKind.wrap_u64, Int.tmod_eq_emod_of_nonneg h2]
  have h3 := Int.emod_nonneg (m % 18446744073709551616) (show (n : Int) ≠ 0 by omega)
  have h4 := Int.emod_lt_of_pos (m % 18446744073709551616) (show (0 : Int) < (n : Int) by omega)
  refine ⟨(m % 18446744073709551616 % (n : Int)).toNat, by omega, ?_⟩
  unfold wrap64
  omega
theorem word_lt {f : List Int} (h : kM f = true) : wordK f < 18446744073709551616 := by
  unfold wordK
  rw [if_pos h]
  have h1 := pk_lt h f.length (Nat.le_refl _)
  have h2 := kM_len h
  have h3 : 2 ^ (4 + 2 * f.length) ≤ 2 ^ 60 := Nat.pow_le_pow_right (by omega) (by omega)
  have h4 : (2 : Nat) ^ 60 < 18446744073709551616 := by decide
  omega
theorem sW_lt {r e l b0 b1 b2 b3 : Nat} {ks : List (List Int)} (hk : ks.length ≤ 16) (ha : ks.all kM = true) (h0 : b0 ≤ 4096) (h1 : b1 ≤ 4096) (h2 : b2 ≤ 4096) (h3 : b3 ≤ 4096) (h4 : r ≤ 4096) (h5 : e ≤ 4096) (h6 : l ≤ 4096) : ∀ y ∈ sW r e l b0 b1 b2 b3 ks, y < 18446744073709551616 := by
  intro y hy
  unfold sW hd9 at hy
  simp only [List.cons_append, List.nil_append, List.mem_cons, List.mem_map] at hy
  rcases hy with rfl | rfl | rfl | rfl | rfl | rfl | rfl | rfl | rfl | ⟨f, hf, rfl⟩
  · decide
  · omega
  · omega
  · omega
  · omega
  · omega
  · omega
  · omega
  · omega
  · exact word_lt (List.all_eq_true.1 ha f hf)
theorem walk (w : World) (v0 : Value) (x0 : Ba.Cf) (hk0 : Ba.CAt w v0 x0) (ok0 : Ba.okC x0) (a1 : Int) (w1 : (Lit.int .i64 a1).wf = true) :
    Calls Try.prog 5 #[v0, .int .i64 a1] w fun e w' => e = .returned (.bool true) ∧ Below w.heap.size w w' := by
  obtain ⟨A, k, rfl, hk, hks⟩ := hk0
  obtain ⟨ks, b0, b1, b2, b3, ro, we, lg⟩ := x0
  dsimp only at hk hks ⊢
  have hz25 : ∀ w, (zeroValue 25).run Try.prog w = .ok (.agg #[.slice none 0 0, .int .i64 0, .int .i64 0, .int .i64 0, .int .i64 0, .int .i64 0, .int .i64 0, .int .i64 0]) w := fun w => by kernel_rfl
  have HB0 := Lib.hid ((Below.refl w.heap.size w).alloc (Nat.le_refl _) (.cells #[.slice A ks.length k, .int .i64 b0, .int .i64 b1, .int .i64 b2, .int .i64 b3, .int .i64 ro, .int .i64 we, .int .i64 lg] 25))
  have HX0 := Lib.hid (heap_alloc_new w (.cells #[.slice A ks.length k, .int .i64 b0, .int .i64 b1, .int .i64 b2, .int .i64 b3, .int .i64 ro, .int .i64 we, .int .i64 lg] 25))
  have HKS := Lib.hid (hks.old HB0.out.block)
  obtain ⟨w0, hw0⟩ : ∃ w0, w.alloc (.cells #[.slice A ks.length k, .int .i64 b0, .int .i64 b1, .int .i64 b2, .int .i64 b3, .int .i64 ro, .int .i64 we, .int .i64 lg] 25) = w0 := ⟨_, rfl⟩
  rw [hw0] at HB0 HX0 HKS
  have HLT := Lib.hid (light_any A k ks b0 b1 b2 b3 ro we lg w0 HKS.out)
  obtain ⟨p0, p1, p2, p3, p4, p5, p6, p7⟩ := cells8 HX0.out
  clear ok0 hks
  cases el : lightB ks
  · rw [el] at HLT
    clear el
    go_enter Try.func5, Try.ntmps5
    go_wp2_with fail
    refine HLT.out.mono ?_
    rintro e w2 ⟨rfl, hb2⟩
    have HB2 := Lib.hid (HB0.out.trans (hb2.mono HB0.out.size))
    clear hb2
    go_wp2_with fail
    refine (Aw.awake_any _).mono ?_
    rintro e w3 ⟨rfl, hb3⟩
    have HB3 := Lib.hid (HB2.out.trans (hb3.mono HB2.out.size))
    clear hb3
    go_wp2
    go_ret
    exact ⟨rfl, HB3.out⟩
  rw [el] at HLT
  clear el
  have HM := Lib.hid (fun (W : World) (h : Ks W A ks) => Mr.rmay_any A k ks b0 b1 b2 b3 ro we lg W h)
  have HN := Lib.hid (fun (W : World) (h : Ks W A ks) => new_any A k ks b0 b1 b2 b3 ro we lg W h)
  have HE : Hid (mayE ⟨ks, b0, b1, b2, b3, ro, we, lg⟩ = 0 → Arg ⟨ks, b0, b1, b2, b3, ro, we, lg⟩) := Lib.hid (fun h => (mayE_zero h).1)
  by_cases he : mayE ⟨ks, b0, b1, b2, b3, ro, we, lg⟩ = 0
  · rw [he] at HM
    have HEZ := Lib.hid he
    have hA := HE.out he
    have HA := Lib.hid hA
    obtain ⟨x0, x1, _, ⟨f0, g0⟩, ⟨f1, g1⟩, ⟨f2, g2⟩, ⟨f3, g3⟩, _, ⟨f5, g5⟩, ⟨f6, g6⟩, ⟨f7, g7⟩, _⟩ := hA
    dsimp only at x0 x1 f0 g0 f1 g1 f2 g2 f3 g3 f5 g5 f6 g6 f7 g7
    clear he HE
    obtain ⟨b0, rfl⟩ := Int.eq_ofNat_of_zero_le f0
    obtain ⟨b1, rfl⟩ := Int.eq_ofNat_of_zero_le f1
    obtain ⟨b2, rfl⟩ := Int.eq_ofNat_of_zero_le f2
    obtain ⟨b3, rfl⟩ := Int.eq_ofNat_of_zero_le f3
    obtain ⟨ro, rfl⟩ := Int.eq_ofNat_of_zero_le (show 0 ≤ ro by omega)
    obtain ⟨we, rfl⟩ := Int.eq_ofNat_of_zero_le f6
    obtain ⟨lg, rfl⟩ := Int.eq_ofNat_of_zero_le (show 0 ≤ lg by omega)
    go_enter Try.func5, Try.ntmps5
    go_wp2_with fail
    refine HLT.out.mono ?_
    rintro e w2 ⟨rfl, hb2⟩
    have HB2 := Lib.hid (HB0.out.trans (hb2.mono HB0.out.size))
    have HX2 := Lib.hid (blk_below HX0.out hb2)
    have HKS2 := Lib.hid (HKS.out.old hb2.block)
    clear hb2 p0 p1 p2 p3 p4 p5 p6 p7
    obtain ⟨p0, p1, p2, p3, p4, p5, p6, p7⟩ := cells8 HX2.out
    go_wp2_with fail
    refine (HM.out _ HKS2.out).mono ?_
    rintro e w3 ⟨rfl, hb3⟩
    have HB3 := Lib.hid (HB2.out.trans (hb3.mono HB2.out.size))
    have HX3 := Lib.hid (blk_below HX2.out hb3)
    have HKS3 := Lib.hid (HKS2.out.old hb3.block)
    clear hb3 p0 p1 p2 p3 p4 p5 p6 p7
    obtain ⟨p0, p1, p2, p3, p4, p5, p6, p7⟩ := cells8 HX3.out
    go_wp2_with fail
    refine (HN.out _ HKS3.out).mono ?_
    rintro e w4 ⟨hb4, ⟨_, ga, Aa, ka, rfl, hla, hksa, _, _⟩ | ⟨hne, _⟩⟩
    · have HB4 := Lib.hid (HB3.out.trans (hb4.mono HB3.out.size))
      have HX4 := Lib.hid (blk_below HX3.out hb4)
      have HKS4 := Lib.hid (HKS3.out.old hb4.block)
      have HSU := Lib.hid (super_any ga Aa ka ks b0 b1 b2 b3 ro we lg w4 hla hksa x1 (by omega) (by omega) (by omega) (by omega) (by omega) (by omega) (by omega))
      have hSl := sW_len ro we lg b0 b1 b2 b3 ks
      have HLT := Lib.hid (sW_lt (r := ro) (e := we) (l := lg) (b0 := b0) (b1 := b1) (b2 := b2) (b3 := b3) x1 HA.out.k (by omega) (by omega) (by omega) (by omega) (by omega) (by omega) (by omega))
      obtain ⟨S, hS⟩ : ∃ S, sW ro we lg b0 b1 b2 b3 ks = S := ⟨_, rfl⟩
      have HSE := Lib.hid hS
      rw [hS] at HSU hSl HLT
      have HSL := Lib.hid hSl
      have hS0 : 9 ≤ S.length ∧ S.length ≤ 25 := by omega
      have ke : ∀ W : World, (binOp .eql 31 (.pointer (some ⟨ga, 0, none⟩)) (.pointer none)).run Try.prog W = .ok (.bool false) W := fun W => by rfl
      obtain ⟨d, hd, hdod⟩ := modn a1 (64 * S.length) (by omega) (by omega)
      have hdod : wrap64 ((IntKind.u64.wrap a1).tmod (64 * (S.length : Int))) = (d : Int) := by rw [← hdod, Int.natCast_mul]; rfl
      have hw64 : IntKind.u64.wrap (64 * (S.length : Int)) = 64 * (S.length : Int) := by rw [IntKind.wrap_u64]; omega
      have hSz : ((S.length : Int) == 0) = false := beq_eq_false_iff_ne.2 (by omega)
      obtain ⟨i, hi⟩ : ∃ i, d / 64 = i := ⟨_, rfl⟩
      obtain ⟨m, hm⟩ : ∃ m, d % 64 = m := ⟨_, rfl⟩
      have hiS : i < S.length := by omega
      have hm64 : m < 64 := by omega
      have hdi : (d : Int).tdiv 64 = (i : Int) := by rw [Int.tdiv_eq_ediv_of_nonneg (by omega)]; omega
      have hdm : (d : Int).tmod 64 = (m : Int) := by rw [Int.tmod_eq_emod_of_nonneg (by omega)]; omega
      have hwm : IntKind.u64.wrap (m : Int) = (m : Int) := wrap_nat _ (by omega)
      have hwd : IntKind.i64.wrap (d : Int) = (d : Int) := Go.IntWalk.i64_in _ (by omega)
      have hxl := HLT.out _ (mem_getD (d := (0 : Nat)) hiS)
      have HNE := Lib.hid (flip_ne (S.getD i 0) m)
      obtain ⟨x, hx⟩ : ∃ x, S.getD i 0 = x := ⟨_, rfl⟩
      have HXE := Lib.hid hx
      rw [hx] at hxl HNE
      have hp2 : 2 ^ m < 18446744073709551616 := by
        have : 2 ^ m ≤ 2 ^ 63 := Nat.pow_le_pow_right (by omega) (by omega)
        have h63 : (2 : Nat) ^ 63 < 18446744073709551616 := by decide
        omega
      have hwp : IntKind.u64.wrap ((2 : Int) ^ m) = ((2 ^ m : Nat) : Int) := by
        rw [show ((2 : Int) ^ m) = ((2 ^ m : Nat) : Int) by rw [Int.natCast_pow]; rfl]
        exact wrap_nat _ hp2
      have hxor : bits .xor .u64 (x : Int) ((2 ^ m : Nat) : Int) = ((x ^^^ 2 ^ m : Nat) : Int) := bits_xor_u64_nat x (2 ^ m) hxl hp2
      have hxlt : x ^^^ 2 ^ m < 18446744073709551616 := by
        have : x ^^^ 2 ^ m < 2 ^ 64 := Nat.xor_lt_two_pow (by omega) (by omega)
        omega
      obtain ⟨pw, hp2e⟩ : ∃ p, 2 ^ m = p := ⟨_, rfl⟩
      rw [hp2e] at hwp hxor hxlt HNE
      obtain ⟨y, hy⟩ : ∃ y, x ^^^ pw = y := ⟨_, rfl⟩
      rw [hy] at hxor hxlt HNE
      have HBDS : Hid (∀ z ∈ S.set i y, z < 18446744073709551616) := Lib.hid (fun z hz => by
        rcases List.mem_or_eq_of_mem_set hz with h | h
        · exact HLT.out z h
        · rw [h]; exact hxlt)
      have HNS : Hid (S.set i y ≠ S) := Lib.hid (fun h => HNE.out (by
        have h1 := congrArg (fun l => List.getD l i 0) h
        simp only [List.getD_eq_getElem?_getD, List.getElem?_set, if_pos hiS] at h1
        rw [← HXE.out, List.getD_eq_getElem?_getD]
        simpa using h1))
      clear hb4 hla hksa hS hSl hd hi hm hx hxl hp2 hp2e hy hxlt p0 p1 p2 p3 p4 p5 p6 p7
      go_wp2_with fail
      refine HSU.out.mono ?_
      rintro e w5 ⟨v5, rfl, ho5, hb5⟩
      obtain ⟨g, c, rfl, hg, hglt, hlc, hq, hfz, hwr⟩ := RU.store ho5 (by omega) i hiS y
      rw [HXE.out] at hq
      obtain ⟨w6, hw6⟩ : ∃ w6, w5.setCell ⟨g, i, none⟩ (.int .u64 (y : Int)) = w6 := ⟨_, rfl⟩
      have HB5 := Lib.hid (HB4.out.trans (hb5.mono HB4.out.size))
      have HB56 : Hid (Below w4.heap.size w5 w6) := Lib.hid (by rw [← hw6]; exact Ow.below_of_grown (grown_set w5 g i _) hg hb5.size)
      have HB6 := Lib.hid (HB5.out.trans (HB56.out.mono HB4.out.size))
      have HX6 := Lib.hid ((HB56.out.block _ (blk_lt HX4.out)).trans (blk_below HX4.out hb5))
      have HKS6 : Hid (Ks w6 A ks) := Lib.hid (HKS4.out.old (fun q hq => (HB56.out.block q hq).trans (hb5.block q hq)))
      have HPA := Lib.hid (Pa.parse_any (some ⟨g, 0, none⟩) c (S.set i y) w6 (by rw [← hw6]; exact hwr) (by rw [List.length_set]; omega) (by rw [List.length_set]; exact hlc) HBDS.out)
      rw [List.length_set] at HPA
      clear ho5 hb5 hg hglt hwr
      go_wp2_with fail
      refine HPA.out.mono ?_
      rintro e w7 ⟨hb7, ⟨hok, Ad, kd, rfl, hkd, hld⟩ | ⟨hno, rfl⟩⟩
      · have HTOLD : Hid (cfW (S.set i y) ≠ ⟨ks, b0, b1, b2, b3, ro, we, lg⟩) := Lib.hid (fun h => HNS.out ((told hok (by rw [List.length_set]; exact HSL.out) h).trans HSE.out))
        obtain ⟨⟨ls, c0, c1, c2, c3, rp, wp, lp⟩, hC⟩ : ∃ C, cfW (S.set i y) = C := ⟨_, rfl⟩
        rw [hC] at hkd hld HTOLD ⊢
        dsimp only at hkd hld ⊢
        have HB7 := Lib.hid ((HB6.out.trans (hb7.mono HB6.out.size)).alloc (HB6.out.trans (hb7.mono HB6.out.size)).size (.cells #[.slice Ad ls.length kd, .int .i64 c0, .int .i64 c1, .int .i64 c2, .int .i64 c3, .int .i64 rp, .int .i64 wp, .int .i64 lp] 25))
        have HX7 := Lib.hid (blk_alloc (blk_below HX6.out hb7) (.cells #[.slice Ad ls.length kd, .int .i64 c0, .int .i64 c1, .int .i64 c2, .int .i64 c3, .int .i64 rp, .int .i64 wp, .int .i64 lp] 25))
        have hbl := ((Below.refl w7.heap.size w7).alloc (Nat.le_refl _) (.cells #[.slice Ad ls.length kd, .int .i64 c0, .int .i64 c1, .int .i64 c2, .int .i64 c3, .int .i64 rp, .int .i64 wp, .int .i64 lp] 25)).block
        have hsc := Sg.samecfg_any A Ad k kd ks ls b0 b1 b2 b3 ro we lg c0 c1 c2 c3 rp wp lp _ ((HKS6.out.old hb7.block).old hbl) (hkd.old hbl) (by omega) (fun f hf => by have := kM_len (List.all_eq_true.1 HA.out.k f hf); omega)
        rw [decide_eq_false (fun h => HTOLD.out h.symm)] at hsc
        have HSC := Lib.hid hsc
        obtain ⟨p0, p1, p2, p3, p4, p5, p6, p7⟩ := cells8 HX7.out
        clear hb7 hkd hbl hsc hC hok
        go_wp2_with fail
        refine HSC.out.mono ?_
        rintro e w8 ⟨rfl, hb8⟩
        have HB8 := Lib.hid (HB7.out.trans (hb8.mono HB7.out.size))
        clear hb8 p0 p1 p2 p3 p4 p5 p6 p7
        go_wp2_with fail
        refine (Aw.awake_any _).mono ?_
        rintro e w9 ⟨rfl, hb9⟩
        have HB9 := Lib.hid (HB8.out.trans (hb9.mono HB8.out.size))
        clear hb9
        go_wp2
        go_ret
        exact ⟨rfl, HB9.out⟩
      · have HB7 := Lib.hid ((HB6.out.trans (hb7.mono HB6.out.size)).alloc (HB6.out.trans (hb7.mono HB6.out.size)).size (.cells #[.slice none 0 0, .int .i64 0, .int .i64 0, .int .i64 0, .int .i64 0, .int .i64 0, .int .i64 0, .int .i64 0] 25))
        clear hb7 hno
        go_wp2_with fail
        refine (Aw.awake_any _).mono ?_
        rintro e w9 ⟨rfl, hb9⟩
        have HB9 := Lib.hid (HB7.out.trans (hb9.mono HB7.out.size))
        clear hb9
        go_wp2
        go_ret
        exact ⟨rfl, HB9.out⟩
    · exact absurd HEZ.out hne
  · have HE1 := Lib.hid he
    obtain ⟨E, hE⟩ : ∃ E, mayE ⟨ks, b0, b1, b2, b3, ro, we, lg⟩ = E := ⟨_, rfl⟩
    rw [hE] at HM he
    have be : (E == 0) = false := beq_eq_false_iff_ne.2 he
    have bn : (E != 0) = true := bne_iff_ne.2 he
    clear hE HE HE1
    go_enter Try.func5, Try.ntmps5
    go_wp2_with fail
    refine HLT.out.mono ?_
    rintro e w2 ⟨rfl, hb2⟩
    have HB2 := Lib.hid (HB0.out.trans (hb2.mono HB0.out.size))
    have HX2 := Lib.hid (blk_below HX0.out hb2)
    have HKS2 := Lib.hid (HKS.out.old hb2.block)
    clear hb2 p0 p1 p2 p3 p4 p5 p6 p7
    obtain ⟨p0, p1, p2, p3, p4, p5, p6, p7⟩ := cells8 HX2.out
    go_wp2_with fail
    refine (HM.out _ HKS2.out).mono ?_
    rintro e w3 ⟨rfl, hb3⟩
    have HB3 := Lib.hid (HB2.out.trans (hb3.mono HB2.out.size))
    clear hb3
    go_wp2_with fail
    refine (Aw.awake_any _).mono ?_
    rintro e w4 ⟨rfl, hb4⟩
    have HB4 := Lib.hid (HB3.out.trans (hb4.mono HB3.out.size))
    clear hb4
    go_wp2
    go_ret
    exact ⟨rfl, HB4.out⟩

theorem own : ownKnob Try.prog.godebug = none := by kernel_rfl
theorem laidOut : laidOutB Try.prog = true := by kernel_rfl
set_option maxRecDepth 100000 in
theorem lifted (os : Os) (started : os.Started) (H : Type) (enc : TypeId × Value → H) :
    ReturnsInHanded {} Try.checked os 5 .any (Rows.layoutToldSpec.pre6 enc Try.prog Try.f5 Rows.layoutToldRow.domain false) (Rows.layoutToldSpec.post enc Try.prog Try.f5 false true false false) := by
  refine returnsInHanded_of_change (C := Try.checked) own started (by kernel_rfl) Try.func5
    (ChangeSpec.witness6 (enc := enc) (C := Try.checked) false ⟨#[], #[.agg #[.slice none 0 0, .int .i64 0, .int .i64 0, .int .i64 0, .int .i64 0, .int .i64 0, .int .i64 0, .int .i64 0], .int .i64 0], []⟩ 8 (by kernel_rfl) (by kernel_rfl) (by kernel_rfl) (by kernel_rfl)) ?_
  intro W base args ds gs before hval0 hW hcnd _
  have hval : ∀ (j : Nat) t v, Try.f5.params[j]? = some t → args[j]? = some v → Value.okWide Try.prog W .any base t v := hval0
  have hW' := hW
  obtain ⟨p, q, hA0, hV, rfl, hfz, hnd⟩ := hW
  have hA : DataW.TrodAll enc Try.prog W 0 (fun _ => true) true Try.f5.params.toList args.toList ds p := hA0
  rw [Try.params5] at hA hval
  obtain ⟨v0, vs0, d0, ds0, p0, q0, hargs, rfl, rfl, h0, r0⟩ := trodAll_cons hA
  obtain ⟨v1, vs1, d1, ds1, p1, q1, rfl, rfl, rfl, h1, r1⟩ := trodAll_cons r0
  obtain ⟨rfl, rfl, rfl⟩ := trodAll_nil r1
  obtain rfl : args = #[v0, v1] := by cases args; simp_all
  obtain ⟨rfl, rfl⟩ := trodVars_none hV
  have k0 := h0
  have lt0 : ∀ x ∈ p0, x.block < W.heap.size := by obtain ⟨m, hm⟩ := k0; exact DataW.trod_lt m _ _ _ hm
  obtain ⟨fuel0, hf0⟩ := h0
  obtain ⟨x0, hk0, ok0⟩ := (Ba.opens_cf) H enc W 0 _ _ _ _ _ hf0
  have hg0 := Ba.cat_of (hval 0 25 v0 rfl rfl) hk0
  obtain ⟨a1, rfl, rfl, rfl, w1⟩ := open_int Try.underlying3 (hval 1 3 v1 rfl rfl) h1
  clear hA0 hval0
  refine (walk W _ x0 hg0 ok0 a1 w1).mono fun e W' ⟨he, bel⟩ => ?_
  subst he
  exact ⟨_, rfl, _, _, _, [], _, [], hW', trodAll_mk1 (shut_bool Try.underlying4 _), (trodAll_cons_mk (Below.trod laidOut (by kernel_rfl) (of_decide_eq_true (by kernel_rfl)) k0 bel lt0) (trodAll_cons_mk (shut_int Try.underlying3 w1) trodAll_mk0)), rfl, bel.frame _, fun h => by cases h⟩
theorem over : Rows.layoutToldRow.holds Try.pinned (OpenSpec.ofChange Rows.layoutToldSpec) :=
  OpenClaim.holds_of_wide 5 Try.f5 rfl rfl rfl rfl rfl rfl rfl ⟨rfl, rfl, rfl, rfl, rfl⟩ rfl rfl rfl rfl rfl (by kernel_rfl) Try.func5 (by kernel_rfl)
    (of_decide_eq_true (by kernel_rfl)) (by unfold Func.isWrapper; first | (rw [if_pos (by decide +kernel)]; kernel_rfl) | (rw [if_neg (by decide +kernel)]; exact ⟨rfl, rfl⟩))
    (fun os started H enc _ => lifted os started H enc)
theorem proved : Rows.LayoutToldSaid := over
#print axioms proved
end Go.Proofs.Ytlmlckidgfnhdaa.layoutTold
