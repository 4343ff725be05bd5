/-
  With more blocks, more roots, a longer log nothing gets shorter.
-/
import Derived.Test.YtlmlckidgfnhdaaRows
import Derived.WalkKit
import Derived.WalkSpells
import Derived.WalkLawsBesides
import Derived.WalkMore
import Derived.ProofKit
import Derived.OpenShut
import Derived.ShutString
import Derived.ChangeOld
import Derived.Below
import Derived.SizedLaws
import Derived.Lib.Hide
import Derived.Test.YtlmlckidgfnhdaaOpen
import Derived.Test.YtlmlckidgfnhdaaPm
import Derived.Test.YtlmlckidgfnhdaaMr
import Derived.Test.YtlmlckidgfnhdaaAw
namespace Go.Proofs.Ytlmlckidgfnhdaa.layoutGrows
open Go.RowKit Go.ChangeShapes Go.WideShapes Go.ChangeAt Go.Proofs.YtlmlckidgfnhdaaW.PrintWords
set_option linter.unusedVariables false
open Go.Proofs.Ytlmlckidgfnhdaa.Ba Go.Proofs.Ytlmlckidgfnhdaa.Kw Go.Proofs.Ytlmlckidgfnhdaa.Pl Go.Proofs.Ytlmlckidgfnhdaa.Pc Go.Proofs.Ytlmlckidgfnhdaa.My Go.Proofs.Ytlmlckidgfnhdaa.Nw Go.Proofs.Ytlmlckidgfnhdaa.Ca Go.Proofs.Ytlmlckidgfnhdaa.Ta Go.Proofs.Ytlmlckidgfnhdaa.Pm
set_option maxHeartbeats 16000000
set_option maxRecDepth 100000
theorem modn (m : Int) (n : Nat) (h0 : 0 < n) (h1 : n ≤ 1000000) : ∃ d : Nat, d < n ∧ wrap64 ((IntKind.u64.wrap m).tmod (n : Int)) = (d : Int) := by
  have h2 : 0 ≤ m % 18446744073709551616 := Int.emod_nonneg _ (by omega)
  rw [IntKind.wrap_u64, Int.tmod_eq_emod_of_nonneg h2]
  have h3 := Int.emod_nonneg (m % 18446744073709551616) (show (n : Int) ≠ 0 by omega)
  have h4 := Int.emod_lt_of_pos (m % 18446744073709551616) (show (0 : Int) < (n : Int) by omega)
  refine ⟨(m % 18446744073709551616 % (n : Int)).toNat, by omega, ?_⟩
  unfold wrap64
  omega
theorem walk (w : World) (v0 : Value) (x0 : Ba.Cf) (hk0 : Ba.CAt w v0 x0) (ok0 : Ba.okC x0) (a1 : Int) (w1 : (Lit.int .i64 a1).wf = true) (a2 : Int) (w2 : (Lit.int .i64 a2).wf = true) :
    Calls Try.prog 3 #[v0, .int .i64 a1, .int .i64 a2] w fun e w' => e = .returned (.bool true) ∧ Below w.heap.size w w' := by
  obtain ⟨A, k, rfl, hk, hks⟩ := hk0
  obtain ⟨ks, b0, b1, b2, b3, ro, we, lg⟩ := x0
  dsimp only at hk hks ⊢
  have hz25 : ∀ w, (zeroValue 25).run Try.prog w = .ok (.agg #[.slice none 0 0, .int .i64 0, .int .i64 0, .int .i64 0, .int .i64 0, .int .i64 0, .int .i64 0, .int .i64 0]) w := fun w => by kernel_rfl
  obtain ⟨m, hm, hmod⟩ := modn a2 9 (by omega) (by omega)
  obtain ⟨q, hq, hqod⟩ := modn a1 6 (by omega) (by omega)
  have HB0 := Lib.hid ((Below.refl w.heap.size w).alloc (Nat.le_refl _) (.cells #[.slice A ks.length k, .int .i64 b0, .int .i64 b1, .int .i64 b2, .int .i64 b3, .int .i64 ro, .int .i64 we, .int .i64 lg] 25))
  have HX0 := Lib.hid (heap_alloc_new w (.cells #[.slice A ks.length k, .int .i64 b0, .int .i64 b1, .int .i64 b2, .int .i64 b3, .int .i64 ro, .int .i64 we, .int .i64 lg] 25))
  have HKS := Lib.hid (hks.old HB0.out.block)
  obtain ⟨w0, hw0⟩ : ∃ w0, w.alloc (.cells #[.slice A ks.length k, .int .i64 b0, .int .i64 b1, .int .i64 b2, .int .i64 b3, .int .i64 ro, .int .i64 we, .int .i64 lg] 25) = w0 := ⟨_, rfl⟩
  rw [hw0] at HB0 HX0 HKS
  have HLT := Lib.hid (light_any A k ks b0 b1 b2 b3 ro we lg w0 HKS.out)
  obtain ⟨p0, p1, p2, p3, p4, p5, p6, p7⟩ := cells8 HX0.out
  clear ok0 hks
  cases el : lightB ks
  · rw [el] at HLT
    clear el
    go_enter Try.func3, Try.ntmps3
    go_wp2_with fail
    refine HLT.out.mono ?_
    rintro e w2 ⟨rfl, hb2⟩
    have HB2 := Lib.hid (HB0.out.trans (hb2.mono HB0.out.size))
    clear hb2
    go_wp2_with fail
    refine (Aw.awake_any _).mono ?_
    rintro e w3 ⟨rfl, hb3⟩
    have HB3 := Lib.hid (HB2.out.trans (hb3.mono HB2.out.size))
    clear hb3
    go_wp2
    go_ret
    exact ⟨rfl, HB3.out⟩
  rw [el] at HLT
  clear el
  have HM := Lib.hid (fun (W : World) (h : Ks W A ks) => Mr.rmay_any A k ks b0 b1 b2 b3 ro we lg W h)
  have HN := Lib.hid (fun (W : World) (h : Ks W A ks) => new_any A k ks b0 b1 b2 b3 ro we lg W h)
  have HE : Hid (mayE ⟨ks, b0, b1, b2, b3, ro, we, lg⟩ = 0 → Arg ⟨ks, b0, b1, b2, b3, ro, we, lg⟩) := Lib.hid (fun h => (mayE_zero h).1)
  by_cases he : mayE ⟨ks, b0, b1, b2, b3, ro, we, lg⟩ = 0
  · rw [he] at HM
    have HEZ := Lib.hid he
    have hA := HE.out he
    have HA := Lib.hid hA
    obtain ⟨x0, x1, _, ⟨f0, g0⟩, ⟨f1, g1⟩, ⟨f2, g2⟩, ⟨f3, g3⟩, _, ⟨f5, g5⟩, ⟨f6, g6⟩, ⟨f7, g7⟩, _⟩ := hA
    dsimp only at x0 x1 f0 g0 f1 g1 f2 g2 f3 g3 f5 g5 f6 g6 f7 g7
    clear he HE
    have hmod : wrap64 ((IntKind.u64.wrap a2).tmod 9) = (m : Int) := hmod
    have hqod : wrap64 ((IntKind.u64.wrap a1).tmod 6) = (q : Int) := hqod
    have hq6 : q = 0 ∨ q = 1 ∨ q = 2 ∨ q = 3 ∨ q = 4 ∨ q = 5 := by omega
    clear hq
    rcases hq6 with rfl | rfl | rfl | rfl | rfl | rfl
    · have HMd := Lib.hid (fun (W : World) (h : Ks W A ks) => Mr.rmay_any A k ks (b0 + ((m : Int) + 1)) b1 b2 b3 ro we lg W h)
      have HNd := Lib.hid (fun (W : World) (h : Ks W A ks) => new_any A k ks (b0 + ((m : Int) + 1)) b1 b2 b3 ro we lg W h)
      have HEd : Hid (mayE ⟨ks, (b0 + ((m : Int) + 1)), b1, b2, b3, ro, we, lg⟩ = 0 → Arg ⟨ks, (b0 + ((m : Int) + 1)), b1, b2, b3, ro, we, lg⟩) := Lib.hid (fun h => (mayE_zero h).1)
      have HLE : Hid (Le ⟨ks, b0, b1, b2, b3, ro, we, lg⟩ ⟨ks, (b0 + ((m : Int) + 1)), b1, b2, b3, ro, we, lg⟩) := Lib.hid ⟨rfl, by dsimp only; omega, by dsimp only; omega, by dsimp only; omega, by dsimp only; omega, by dsimp only; omega, by dsimp only; omega, by dsimp only; omega⟩
      have hqod : wrap64 ((IntKind.u64.wrap a1).tmod 6) = 0 := hqod
      by_cases hd : mayE ⟨ks, (b0 + ((m : Int) + 1)), b1, b2, b3, ro, we, lg⟩ = 0
      · rw [hd] at HMd
        have HDZ := Lib.hid hd
        have HDA := Lib.hid (HEd.out hd)
        clear hd HEd
        go_enter Try.func3, Try.ntmps3
        go_wp2_with fail
        refine HLT.out.mono ?_
        rintro e w2 ⟨rfl, hb2⟩
        have HB2 := Lib.hid (HB0.out.trans (hb2.mono HB0.out.size))
        have HX2 := Lib.hid (blk_below HX0.out hb2)
        have HKS2 := Lib.hid (HKS.out.old hb2.block)
        clear hb2 p0 p1 p2 p3 p4 p5 p6 p7
        obtain ⟨p0, p1, p2, p3, p4, p5, p6, p7⟩ := cells8 HX2.out
        go_wp2_with fail
        refine (HM.out _ HKS2.out).mono ?_
        rintro e w3 ⟨rfl, hb3⟩
        have HB3 := Lib.hid (HB2.out.trans (hb3.mono HB2.out.size))
        have HX3 := Lib.hid (blk_below HX2.out hb3)
        have HKS3 := Lib.hid (HKS2.out.old hb3.block)
        clear hb3 p0 p1 p2 p3 p4 p5 p6 p7
        obtain ⟨p0, p1, p2, p3, p4, p5, p6, p7⟩ := cells8 HX3.out
        go_wp2_with fail
        refine (HMd.out _ (HKS3.out.old ((Below.refl _ _).alloc (Nat.le_refl _) _).block)).mono ?_
        rintro e w4 ⟨rfl, hb4⟩
        have HBd := Lib.hid ((HB3.out.alloc HB3.out.size (.cells #[.slice A ks.length k, .int .i64 (b0 + ((m : Int) + 1)), .int .i64 b1, .int .i64 b2, .int .i64 b3, .int .i64 ro, .int .i64 we, .int .i64 lg] 25)).trans (hb4.mono (HB3.out.alloc HB3.out.size (.cells #[.slice A ks.length k, .int .i64 (b0 + ((m : Int) + 1)), .int .i64 b1, .int .i64 b2, .int .i64 b3, .int .i64 ro, .int .i64 we, .int .i64 lg] 25)).size))
        have HY4 := Lib.hid (blk_below (heap_alloc_new w3 (.cells #[.slice A ks.length k, .int .i64 (b0 + ((m : Int) + 1)), .int .i64 b1, .int .i64 b2, .int .i64 b3, .int .i64 ro, .int .i64 we, .int .i64 lg] 25)) hb4)
        have HX4 := Lib.hid (blk_below (blk_alloc HX3.out (.cells #[.slice A ks.length k, .int .i64 (b0 + ((m : Int) + 1)), .int .i64 b1, .int .i64 b2, .int .i64 b3, .int .i64 ro, .int .i64 we, .int .i64 lg] 25)) hb4)
        have HKS4 := Lib.hid ((HKS3.out.old ((Below.refl _ _).alloc (Nat.le_refl _) (.cells #[.slice A ks.length k, .int .i64 (b0 + ((m : Int) + 1)), .int .i64 b1, .int .i64 b2, .int .i64 b3, .int .i64 ro, .int .i64 we, .int .i64 lg] 25)).block).old hb4.block)
        clear hb4 p0 p1 p2 p3 p4 p5 p6 p7
        obtain ⟨p0, p1, p2, p3, p4, p5, p6, p7⟩ := cells8 HX4.out
        go_wp2_with fail
        refine (HN.out _ HKS4.out).mono ?_
        rintro e w5 ⟨hb5, ⟨_, ga, Aa, ka, rfl, hla, _, _, _⟩ | ⟨hne, _⟩⟩
        · have HB5 := Lib.hid (HBd.out.trans (hb5.mono HBd.out.size))
          have HY5 := Lib.hid (blk_below HY4.out hb5)
          have HKS5 := Lib.hid (HKS4.out.old hb5.block)
          have HLA := Lib.hid hla
          clear hb5 hla p0 p1 p2 p3 p4 p5 p6 p7
          obtain ⟨p0, p1, p2, p3, p4, p5, p6, p7⟩ := cells8 HY5.out
          go_wp2_with fail
          refine (HNd.out _ HKS5.out).mono ?_
          rintro e w6 ⟨hb6, ⟨_, gd, Ad, kd, rfl, hld, _, _, _⟩ | ⟨hne, _⟩⟩
          · have HB6 := Lib.hid (HB5.out.trans (hb6.mono HB5.out.size))
            have HLA6 := Lib.hid (HLA.out.below hb6)
            have HLD6 := Lib.hid hld
            have HW := Lib.hid (words_any ga Aa ka ⟨ks, b0, b1, b2, b3, ro, we, lg⟩ w6 HLA6.out)
            have HWd := Lib.hid (words_any gd Ad kd ⟨ks, (b0 + ((m : Int) + 1)), b1, b2, b3, ro, we, lg⟩ w6 HLD6.out)
            have HTa := Lib.hid (fun W (h : LAt W ga Aa ka ⟨ks, b0, b1, b2, b3, ro, we, lg⟩) => at_any ga Aa ka ks b0 b1 b2 b3 ro we lg 0 W h HA.out.fit)
            have HTd := Lib.hid (fun W (h : LAt W gd Ad kd ⟨ks, (b0 + ((m : Int) + 1)), b1, b2, b3, ro, we, lg⟩) => at_any gd Ad kd ks (b0 + ((m : Int) + 1)) b1 b2 b3 ro we lg 0 W h HDA.out.fit)
            have HBa := Lib.hid (fun W (h : LAt W ga Aa ka ⟨ks, b0, b1, b2, b3, ro, we, lg⟩) => blocks_any ga Aa ka ks b0 b1 b2 b3 ro we lg W h (Rg.arg_bd HA.out))
            have HBd := Lib.hid (fun W (h : LAt W gd Ad kd ⟨ks, (b0 + ((m : Int) + 1)), b1, b2, b3, ro, we, lg⟩) => blocks_any gd Ad kd ks (b0 + ((m : Int) + 1)) b1 b2 b3 ro we lg W h (Rg.arg_bd HDA.out))
            have HPa := Lib.hid (fun W (h : LAt W ga Aa ka ⟨ks, b0, b1, b2, b3, ro, we, lg⟩) => pages_any ga Aa ka ks b0 b1 b2 b3 ro we lg W h (Rg.arg_bd HA.out))
            have HPd := Lib.hid (fun W (h : LAt W gd Ad kd ⟨ks, (b0 + ((m : Int) + 1)), b1, b2, b3, ro, we, lg⟩) => pages_any gd Ad kd ks (b0 + ((m : Int) + 1)) b1 b2 b3 ro we lg W h (Rg.arg_bd HDA.out))
            have i1 := words_le HLE.out
            have i2 : atA ⟨ks, b0, b1, b2, b3, ro, we, lg⟩ 0 ≤ atA ⟨ks, (b0 + ((m : Int) + 1)), b1, b2, b3, ro, we, lg⟩ 0 := by rw [at0 HA.out, at0 HDA.out]; exact blocks_le HLE.out
            have i3 := pages_le HLE.out
            obtain ⟨v1, e1⟩ : ∃ v, wordsA ⟨ks, b0, b1, b2, b3, ro, we, lg⟩ = v := ⟨_, rfl⟩
            obtain ⟨v2, e2⟩ : ∃ v, wordsA ⟨ks, (b0 + ((m : Int) + 1)), b1, b2, b3, ro, we, lg⟩ = v := ⟨_, rfl⟩
            obtain ⟨v3, e3⟩ : ∃ v, atA ⟨ks, b0, b1, b2, b3, ro, we, lg⟩ 0 = v := ⟨_, rfl⟩
            obtain ⟨v4, e4⟩ : ∃ v, atA ⟨ks, (b0 + ((m : Int) + 1)), b1, b2, b3, ro, we, lg⟩ 0 = v := ⟨_, rfl⟩
            obtain ⟨v5, e5⟩ : ∃ v, pagesA ⟨ks, b0, b1, b2, b3, ro, we, lg⟩ = v := ⟨_, rfl⟩
            obtain ⟨v6, e6⟩ : ∃ v, pagesA ⟨ks, (b0 + ((m : Int) + 1)), b1, b2, b3, ro, we, lg⟩ = v := ⟨_, rfl⟩
            rw [e1] at HW i1
            rw [e2] at HWd i1
            rw [e3] at HTa i2
            rw [e4] at HTd i2
            rw [e5] at HPa i3
            rw [e6] at HPd i3
            clear e1 e2 e3 e4 e5 e6 hb6 hld p0 p1 p2 p3 p4 p5 p6 p7
            go_wp2_with fail
            refine HWd.out.mono ?_
            rintro e w7 ⟨rfl, rfl⟩
            go_wp2_with fail
            refine HW.out.mono ?_
            rintro e w7 ⟨rfl, rfl⟩
            go_wp2_with fail
            refine (HTd.out _ HLD6.out).mono ?_
            rintro e w7 ⟨rfl, hb7⟩
            have HB7 := Lib.hid (HB6.out.trans (hb7.mono HB6.out.size))
            have HLA7 := Lib.hid (HLA6.out.below hb7)
            have HLD7 := Lib.hid (HLD6.out.below hb7)
            clear hb7
            go_wp2_with fail
            refine (HTa.out _ HLA7.out).mono ?_
            rintro e w8 ⟨rfl, hb7⟩
            have HB8 := Lib.hid (HB7.out.trans (hb7.mono HB7.out.size))
            have HLA8 := Lib.hid (HLA7.out.below hb7)
            have HLD8 := Lib.hid (HLD7.out.below hb7)
            clear hb7
            go_wp2_with fail
            refine (HBd.out _ HLD8.out).mono ?_
            rintro e w9 ⟨rfl, hb7⟩
            have HB9 := Lib.hid (HB8.out.trans (hb7.mono HB8.out.size))
            have HLA9 := Lib.hid (HLA8.out.below hb7)
            have HLD9 := Lib.hid (HLD8.out.below hb7)
            clear hb7
            go_wp2_with fail
            refine (HBa.out _ HLA9.out).mono ?_
            rintro e w10 ⟨rfl, hb7⟩
            have HB10 := Lib.hid (HB9.out.trans (hb7.mono HB9.out.size))
            have HLA10 := Lib.hid (HLA9.out.below hb7)
            have HLD10 := Lib.hid (HLD9.out.below hb7)
            clear hb7
            go_wp2_with fail
            refine (HPd.out _ HLD10.out).mono ?_
            rintro e w11 ⟨rfl, hb7⟩
            have HB11 := Lib.hid (HB10.out.trans (hb7.mono HB10.out.size))
            have HLA11 := Lib.hid (HLA10.out.below hb7)
            have HLD11 := Lib.hid (HLD10.out.below hb7)
            clear hb7
            go_wp2_with fail
            refine (HPa.out _ HLA11.out).mono ?_
            rintro e w12 ⟨rfl, hb7⟩
            have HB12 := Lib.hid (HB11.out.trans (hb7.mono HB11.out.size))
            have HLA12 := Lib.hid (HLA11.out.below hb7)
            have HLD12 := Lib.hid (HLD11.out.below hb7)
            clear hb7
            go_wp2_with fail
            refine (Aw.awake_any _).mono ?_
            rintro e w13 ⟨rfl, hb7⟩
            have HB13 := Lib.hid (HB12.out.trans (hb7.mono HB12.out.size))
            clear hb7
            go_wp2
            go_ret
            exact ⟨rfl, HB13.out⟩
          · exact absurd HDZ.out hne
        · exact absurd HEZ.out hne
      · obtain ⟨E, hE⟩ : ∃ E, mayE ⟨ks, (b0 + ((m : Int) + 1)), b1, b2, b3, ro, we, lg⟩ = E := ⟨_, rfl⟩
        rw [hE] at HMd hd
        have be : (E == 0) = false := beq_eq_false_iff_ne.2 hd
        have bn : (E != 0) = true := bne_iff_ne.2 hd
        clear hE HEd
        go_enter Try.func3, Try.ntmps3
        go_wp2_with fail
        refine HLT.out.mono ?_
        rintro e w2 ⟨rfl, hb2⟩
        have HB2 := Lib.hid (HB0.out.trans (hb2.mono HB0.out.size))
        have HX2 := Lib.hid (blk_below HX0.out hb2)
        have HKS2 := Lib.hid (HKS.out.old hb2.block)
        clear hb2 p0 p1 p2 p3 p4 p5 p6 p7
        obtain ⟨p0, p1, p2, p3, p4, p5, p6, p7⟩ := cells8 HX2.out
        go_wp2_with fail
        refine (HM.out _ HKS2.out).mono ?_
        rintro e w3 ⟨rfl, hb3⟩
        have HB3 := Lib.hid (HB2.out.trans (hb3.mono HB2.out.size))
        have HX3 := Lib.hid (blk_below HX2.out hb3)
        have HKS3 := Lib.hid (HKS2.out.old hb3.block)
        clear hb3 p0 p1 p2 p3 p4 p5 p6 p7
        obtain ⟨p0, p1, p2, p3, p4, p5, p6, p7⟩ := cells8 HX3.out
        go_wp2_with fail
        refine (HMd.out _ (HKS3.out.old ((Below.refl _ _).alloc (Nat.le_refl _) _).block)).mono ?_
        rintro e w4 ⟨rfl, hb4⟩
        have HBd := Lib.hid ((HB3.out.alloc HB3.out.size (.cells #[.slice A ks.length k, .int .i64 (b0 + ((m : Int) + 1)), .int .i64 b1, .int .i64 b2, .int .i64 b3, .int .i64 ro, .int .i64 we, .int .i64 lg] 25)).trans (hb4.mono (HB3.out.alloc HB3.out.size (.cells #[.slice A ks.length k, .int .i64 (b0 + ((m : Int) + 1)), .int .i64 b1, .int .i64 b2, .int .i64 b3, .int .i64 ro, .int .i64 we, .int .i64 lg] 25)).size))
        clear hb4
        go_wp2_with fail
        refine (Aw.awake_any _).mono ?_
        rintro e w5 ⟨rfl, hb5⟩
        have HB5 := Lib.hid (HBd.out.trans (hb5.mono HBd.out.size))
        clear hb5
        go_wp2
        go_ret
        exact ⟨rfl, HB5.out⟩
    · have HMd := Lib.hid (fun (W : World) (h : Ks W A ks) => Mr.rmay_any A k ks b0 (b1 + ((m : Int) + 1)) b2 b3 ro we lg W h)
      have HNd := Lib.hid (fun (W : World) (h : Ks W A ks) => new_any A k ks b0 (b1 + ((m : Int) + 1)) b2 b3 ro we lg W h)
      have HEd : Hid (mayE ⟨ks, b0, (b1 + ((m : Int) + 1)), b2, b3, ro, we, lg⟩ = 0 → Arg ⟨ks, b0, (b1 + ((m : Int) + 1)), b2, b3, ro, we, lg⟩) := Lib.hid (fun h => (mayE_zero h).1)
      have HLE : Hid (Le ⟨ks, b0, b1, b2, b3, ro, we, lg⟩ ⟨ks, b0, (b1 + ((m : Int) + 1)), b2, b3, ro, we, lg⟩) := Lib.hid ⟨rfl, by dsimp only; omega, by dsimp only; omega, by dsimp only; omega, by dsimp only; omega, by dsimp only; omega, by dsimp only; omega, by dsimp only; omega⟩
      have hqod : wrap64 ((IntKind.u64.wrap a1).tmod 6) = 1 := hqod
      by_cases hd : mayE ⟨ks, b0, (b1 + ((m : Int) + 1)), b2, b3, ro, we, lg⟩ = 0
      · rw [hd] at HMd
        have HDZ := Lib.hid hd
        have HDA := Lib.hid (HEd.out hd)
        clear hd HEd
        go_enter Try.func3, Try.ntmps3
        go_wp2_with fail
        refine HLT.out.mono ?_
        rintro e w2 ⟨rfl, hb2⟩
        have HB2 := Lib.hid (HB0.out.trans (hb2.mono HB0.out.size))
        have HX2 := Lib.hid (blk_below HX0.out hb2)
        have HKS2 := Lib.hid (HKS.out.old hb2.block)
        clear hb2 p0 p1 p2 p3 p4 p5 p6 p7
        obtain ⟨p0, p1, p2, p3, p4, p5, p6, p7⟩ := cells8 HX2.out
        go_wp2_with fail
        refine (HM.out _ HKS2.out).mono ?_
        rintro e w3 ⟨rfl, hb3⟩
        have HB3 := Lib.hid (HB2.out.trans (hb3.mono HB2.out.size))
        have HX3 := Lib.hid (blk_below HX2.out hb3)
        have HKS3 := Lib.hid (HKS2.out.old hb3.block)
        clear hb3 p0 p1 p2 p3 p4 p5 p6 p7
        obtain ⟨p0, p1, p2, p3, p4, p5, p6, p7⟩ := cells8 HX3.out
        go_wp2_with fail
        refine (HMd.out _ (HKS3.out.old ((Below.refl _ _).alloc (Nat.le_refl _) _).block)).mono ?_
        rintro e w4 ⟨rfl, hb4⟩
        have HBd := Lib.hid ((HB3.out.alloc HB3.out.size (.cells #[.slice A ks.length k, .int .i64 b0, .int .i64 (b1 + ((m : Int) + 1)), .int .i64 b2, .int .i64 b3, .int .i64 ro, .int .i64 we, .int .i64 lg] 25)).trans (hb4.mono (HB3.out.alloc HB3.out.size (.cells #[.slice A ks.length k, .int .i64 b0, .int .i64 (b1 + ((m : Int) + 1)), .int .i64 b2, .int .i64 b3, .int .i64 ro, .int .i64 we, .int .i64 lg] 25)).size))
        have HY4 := Lib.hid (blk_below (heap_alloc_new w3 (.cells #[.slice A ks.length k, .int .i64 b0, .int .i64 (b1 + ((m : Int) + 1)), .int .i64 b2, .int .i64 b3, .int .i64 ro, .int .i64 we, .int .i64 lg] 25)) hb4)
        have HX4 := Lib.hid (blk_below (blk_alloc HX3.out (.cells #[.slice A ks.length k, .int .i64 b0, .int .i64 (b1 + ((m : Int) + 1)), .int .i64 b2, .int .i64 b3, .int .i64 ro, .int .i64 we, .int .i64 lg] 25)) hb4)
        have HKS4 := Lib.hid ((HKS3.out.old ((Below.refl _ _).alloc (Nat.le_refl _) (.cells #[.slice A ks.length k, .int .i64 b0, .int .i64 (b1 + ((m : Int) + 1)), .int .i64 b2, .int .i64 b3, .int .i64 ro, .int .i64 we, .int .i64 lg] 25)).block).old hb4.block)
        clear hb4 p0 p1 p2 p3 p4 p5 p6 p7
        obtain ⟨p0, p1, p2, p3, p4, p5, p6, p7⟩ := cells8 HX4.out
        go_wp2_with fail
        refine (HN.out _ HKS4.out).mono ?_
        rintro e w5 ⟨hb5, ⟨_, ga, Aa, ka, rfl, hla, _, _, _⟩ | ⟨hne, _⟩⟩
        · have HB5 := Lib.hid (HBd.out.trans (hb5.mono HBd.out.size))
          have HY5 := Lib.hid (blk_below HY4.out hb5)
          have HKS5 := Lib.hid (HKS4.out.old hb5.block)
          have HLA := Lib.hid hla
          clear hb5 hla p0 p1 p2 p3 p4 p5 p6 p7
          obtain ⟨p0, p1, p2, p3, p4, p5, p6, p7⟩ := cells8 HY5.out
          go_wp2_with fail
          refine (HNd.out _ HKS5.out).mono ?_
          rintro e w6 ⟨hb6, ⟨_, gd, Ad, kd, rfl, hld, _, _, _⟩ | ⟨hne, _⟩⟩
          · have HB6 := Lib.hid (HB5.out.trans (hb6.mono HB5.out.size))
            have HLA6 := Lib.hid (HLA.out.below hb6)
            have HLD6 := Lib.hid hld
            have HW := Lib.hid (words_any ga Aa ka ⟨ks, b0, b1, b2, b3, ro, we, lg⟩ w6 HLA6.out)
            have HWd := Lib.hid (words_any gd Ad kd ⟨ks, b0, (b1 + ((m : Int) + 1)), b2, b3, ro, we, lg⟩ w6 HLD6.out)
            have HTa := Lib.hid (fun W (h : LAt W ga Aa ka ⟨ks, b0, b1, b2, b3, ro, we, lg⟩) => at_any ga Aa ka ks b0 b1 b2 b3 ro we lg 0 W h HA.out.fit)
            have HTd := Lib.hid (fun W (h : LAt W gd Ad kd ⟨ks, b0, (b1 + ((m : Int) + 1)), b2, b3, ro, we, lg⟩) => at_any gd Ad kd ks b0 (b1 + ((m : Int) + 1)) b2 b3 ro we lg 0 W h HDA.out.fit)
            have HBa := Lib.hid (fun W (h : LAt W ga Aa ka ⟨ks, b0, b1, b2, b3, ro, we, lg⟩) => blocks_any ga Aa ka ks b0 b1 b2 b3 ro we lg W h (Rg.arg_bd HA.out))
            have HBd := Lib.hid (fun W (h : LAt W gd Ad kd ⟨ks, b0, (b1 + ((m : Int) + 1)), b2, b3, ro, we, lg⟩) => blocks_any gd Ad kd ks b0 (b1 + ((m : Int) + 1)) b2 b3 ro we lg W h (Rg.arg_bd HDA.out))
            have HPa := Lib.hid (fun W (h : LAt W ga Aa ka ⟨ks, b0, b1, b2, b3, ro, we, lg⟩) => pages_any ga Aa ka ks b0 b1 b2 b3 ro we lg W h (Rg.arg_bd HA.out))
            have HPd := Lib.hid (fun W (h : LAt W gd Ad kd ⟨ks, b0, (b1 + ((m : Int) + 1)), b2, b3, ro, we, lg⟩) => pages_any gd Ad kd ks b0 (b1 + ((m : Int) + 1)) b2 b3 ro we lg W h (Rg.arg_bd HDA.out))
            have i1 := words_le HLE.out
            have i2 : atA ⟨ks, b0, b1, b2, b3, ro, we, lg⟩ 0 ≤ atA ⟨ks, b0, (b1 + ((m : Int) + 1)), b2, b3, ro, we, lg⟩ 0 := by rw [at0 HA.out, at0 HDA.out]; exact blocks_le HLE.out
            have i3 := pages_le HLE.out
            obtain ⟨v1, e1⟩ : ∃ v, wordsA ⟨ks, b0, b1, b2, b3, ro, we, lg⟩ = v := ⟨_, rfl⟩
            obtain ⟨v2, e2⟩ : ∃ v, wordsA ⟨ks, b0, (b1 + ((m : Int) + 1)), b2, b3, ro, we, lg⟩ = v := ⟨_, rfl⟩
            obtain ⟨v3, e3⟩ : ∃ v, atA ⟨ks, b0, b1, b2, b3, ro, we, lg⟩ 0 = v := ⟨_, rfl⟩
            obtain ⟨v4, e4⟩ : ∃ v, atA ⟨ks, b0, (b1 + ((m : Int) + 1)), b2, b3, ro, we, lg⟩ 0 = v := ⟨_, rfl⟩
            obtain ⟨v5, e5⟩ : ∃ v, pagesA ⟨ks, b0, b1, b2, b3, ro, we, lg⟩ = v := ⟨_, rfl⟩
            obtain ⟨v6, e6⟩ : ∃ v, pagesA ⟨ks, b0, (b1 + ((m : Int) + 1)), b2, b3, ro, we, lg⟩ = v := ⟨_, rfl⟩
            rw [e1] at HW i1
            rw [e2] at HWd i1
            rw [e3] at HTa i2
            rw [e4] at HTd i2
            rw [e5] at HPa i3
            rw [e6] at HPd i3
            clear e1 e2 e3 e4 e5 e6 hb6 hld p0 p1 p2 p3 p4 p5 p6 p7
            go_wp2_with fail
            refine HWd.out.mono ?_
            rintro e w7 ⟨rfl, rfl⟩
            go_wp2_with fail
            refine HW.out.mono ?_
            rintro e w7 ⟨rfl, rfl⟩
            go_wp2_with fail
            refine (HTd.out _ HLD6.out).mono ?_
            rintro e w7 ⟨rfl, hb7⟩
            have HB7 := Lib.hid (HB6.out.trans (hb7.mono HB6.out.size))
            have HLA7 := Lib.hid (HLA6.out.below hb7)
            have HLD7 := Lib.hid (HLD6.out.below hb7)
            clear hb7
            go_wp2_with fail
            refine (HTa.out _ HLA7.out).mono ?_
            rintro e w8 ⟨rfl, hb7⟩
            have HB8 := Lib.hid (HB7.out.trans (hb7.mono HB7.out.size))
            have HLA8 := Lib.hid (HLA7.out.below hb7)
            have HLD8 := Lib.hid (HLD7.out.below hb7)
            clear hb7
            go_wp2_with fail
            refine (HBd.out _ HLD8.out).mono ?_
            rintro e w9 ⟨rfl, hb7⟩
            have HB9 := Lib.hid (HB8.out.trans (hb7.mono HB8.out.size))
            have HLA9 := Lib.hid (HLA8.out.below hb7)
            have HLD9 := Lib.hid (HLD8.out.below hb7)
            clear hb7
            go_wp2_with fail
            refine (HBa.out _ HLA9.out).mono ?_
            rintro e w10 ⟨rfl, hb7⟩
            have HB10 := Lib.hid (HB9.out.trans (hb7.mono HB9.out.size))
            have HLA10 := Lib.hid (HLA9.out.below hb7)
            have HLD10 := Lib.hid (HLD9.out.below hb7)
            clear hb7
            go_wp2_with fail
            refine (HPd.out _ HLD10.out).mono ?_
            rintro e w11 ⟨rfl, hb7⟩
            have HB11 := Lib.hid (HB10.out.trans (hb7.mono HB10.out.size))
            have HLA11 := Lib.hid (HLA10.out.below hb7)
            have HLD11 := Lib.hid (HLD10.out.below hb7)
            clear hb7
            go_wp2_with fail
            refine (HPa.out _ HLA11.out).mono ?_
            rintro e w12 ⟨rfl, hb7⟩
            have HB12 := Lib.hid (HB11.out.trans (hb7.mono HB11.out.size))
            have HLA12 := Lib.hid (HLA11.out.below hb7)
            have HLD12 := Lib.hid (HLD11.out.below hb7)
            clear hb7
            go_wp2_with fail
            refine (Aw.awake_any _).mono ?_
            rintro e w13 ⟨rfl, hb7⟩
            have HB13 := Lib.hid (HB12.out.trans (hb7.mono HB12.out.size))
            clear hb7
            go_wp2
            go_ret
            exact ⟨rfl, HB13.out⟩
          · exact absurd HDZ.out hne
        · exact absurd HEZ.out hne
      · obtain ⟨E, hE⟩ : ∃ E, mayE ⟨ks, b0, (b1 + ((m : Int) + 1)), b2, b3, ro, we, lg⟩ = E := ⟨_, rfl⟩
        rw [hE] at HMd hd
        have be : (E == 0) = false := beq_eq_false_iff_ne.2 hd
        have bn : (E != 0) = true := bne_iff_ne.2 hd
        clear hE HEd
        go_enter Try.func3, Try.ntmps3
        go_wp2_with fail
        refine HLT.out.mono ?_
        rintro e w2 ⟨rfl, hb2⟩
        have HB2 := Lib.hid (HB0.out.trans (hb2.mono HB0.out.size))
        have HX2 := Lib.hid (blk_below HX0.out hb2)
        have HKS2 := Lib.hid (HKS.out.old hb2.block)
        clear hb2 p0 p1 p2 p3 p4 p5 p6 p7
        obtain ⟨p0, p1, p2, p3, p4, p5, p6, p7⟩ := cells8 HX2.out
        go_wp2_with fail
        refine (HM.out _ HKS2.out).mono ?_
        rintro e w3 ⟨rfl, hb3⟩
        have HB3 := Lib.hid (HB2.out.trans (hb3.mono HB2.out.size))
        have HX3 := Lib.hid (blk_below HX2.out hb3)
        have HKS3 := Lib.hid (HKS2.out.old hb3.block)
        clear hb3 p0 p1 p2 p3 p4 p5 p6 p7
        obtain ⟨p0, p1, p2, p3, p4, p5, p6, p7⟩ := cells8 HX3.out
        go_wp2_with fail
        refine (HMd.out _ (HKS3.out.old ((Below.refl _ _).alloc (Nat.le_refl _) _).block)).mono ?_
        rintro e w4 ⟨rfl, hb4⟩
        have HBd := Lib.hid ((HB3.out.alloc HB3.out.size (.cells #[.slice A ks.length k, .int .i64 b0, .int .i64 (b1 + ((m : Int) + 1)), .int .i64 b2, .int .i64 b3, .int .i64 ro, .int .i64 we, .int .i64 lg] 25)).trans (hb4.mono (HB3.out.alloc HB3.out.size (.cells #[.slice A ks.length k, .int .i64 b0, .int .i64 (b1 + ((m : Int) + 1)), .int .i64 b2, .int .i64 b3, .int .i64 ro, .int .i64 we, .int .i64 lg] 25)).size))
        clear hb4
        go_wp2_with fail
        refine (Aw.awake_any _).mono ?_
        rintro e w5 ⟨rfl, hb5⟩
        have HB5 := Lib.hid (HBd.out.trans (hb5.mono HBd.out.size))
        clear hb5
        go_wp2
        go_ret
        exact ⟨rfl, HB5.out⟩
    · have HMd := Lib.hid (fun (W : World) (h : Ks W A ks) => Mr.rmay_any A k ks b0 b1 (b2 + ((m : Int) + 1)) b3 ro we lg W h)
      have HNd := Lib.hid (fun (W : World) (h : Ks W A ks) => new_any A k ks b0 b1 (b2 + ((m : Int) + 1)) b3 ro we lg W h)
      have HEd : Hid (mayE ⟨ks, b0, b1, (b2 + ((m : Int) + 1)), b3, ro, we, lg⟩ = 0 → Arg ⟨ks, b0, b1, (b2 + ((m : Int) + 1)), b3, ro, we, lg⟩) := Lib.hid (fun h => (mayE_zero h).1)
      have HLE : Hid (Le ⟨ks, b0, b1, b2, b3, ro, we, lg⟩ ⟨ks, b0, b1, (b2 + ((m : Int) + 1)), b3, ro, we, lg⟩) := Lib.hid ⟨rfl, by dsimp only; omega, by dsimp only; omega, by dsimp only; omega, by dsimp only; omega, by dsimp only; omega, by dsimp only; omega, by dsimp only; omega⟩
      have hqod : wrap64 ((IntKind.u64.wrap a1).tmod 6) = 2 := hqod
      by_cases hd : mayE ⟨ks, b0, b1, (b2 + ((m : Int) + 1)), b3, ro, we, lg⟩ = 0
      · rw [hd] at HMd
        have HDZ := Lib.hid hd
        have HDA := Lib.hid (HEd.out hd)
        clear hd HEd
        go_enter Try.func3, Try.ntmps3
        go_wp2_with fail
        refine HLT.out.mono ?_
        rintro e w2 ⟨rfl, hb2⟩
        have HB2 := Lib.hid (HB0.out.trans (hb2.mono HB0.out.size))
        have HX2 := Lib.hid (blk_below HX0.out hb2)
        have HKS2 := Lib.hid (HKS.out.old hb2.block)
        clear hb2 p0 p1 p2 p3 p4 p5 p6 p7
        obtain ⟨p0, p1, p2, p3, p4, p5, p6, p7⟩ := cells8 HX2.out
        go_wp2_with fail
        refine (HM.out _ HKS2.out).mono ?_
        rintro e w3 ⟨rfl, hb3⟩
        have HB3 := Lib.hid (HB2.out.trans (hb3.mono HB2.out.size))
        have HX3 := Lib.hid (blk_below HX2.out hb3)
        have HKS3 := Lib.hid (HKS2.out.old hb3.block)
        clear hb3 p0 p1 p2 p3 p4 p5 p6 p7
        obtain ⟨p0, p1, p2, p3, p4, p5, p6, p7⟩ := cells8 HX3.out
        go_wp2_with fail
        refine (HMd.out _ (HKS3.out.old ((Below.refl _ _).alloc (Nat.le_refl _) _).block)).mono ?_
        rintro e w4 ⟨rfl, hb4⟩
        have HBd := Lib.hid ((HB3.out.alloc HB3.out.size (.cells #[.slice A ks.length k, .int .i64 b0, .int .i64 b1, .int .i64 (b2 + ((m : Int) + 1)), .int .i64 b3, .int .i64 ro, .int .i64 we, .int .i64 lg] 25)).trans (hb4.mono (HB3.out.alloc HB3.out.size (.cells #[.slice A ks.length k, .int .i64 b0, .int .i64 b1, .int .i64 (b2 + ((m : Int) + 1)), .int .i64 b3, .int .i64 ro, .int .i64 we, .int .i64 lg] 25)).size))
        have HY4 := Lib.hid (blk_below (heap_alloc_new w3 (.cells #[.slice A ks.length k, .int .i64 b0, .int .i64 b1, .int .i64 (b2 + ((m : Int) + 1)), .int .i64 b3, .int .i64 ro, .int .i64 we, .int .i64 lg] 25)) hb4)
        have HX4 := Lib.hid (blk_below (blk_alloc HX3.out (.cells #[.slice A ks.length k, .int .i64 b0, .int .i64 b1, .int .i64 (b2 + ((m : Int) + 1)), .int .i64 b3, .int .i64 ro, .int .i64 we, .int .i64 lg] 25)) hb4)
        have HKS4 := Lib.hid ((HKS3.out.old ((Below.refl _ _).alloc (Nat.le_refl _) (.cells #[.slice A ks.length k, .int .i64 b0, .int .i64 b1, .int .i64 (b2 + ((m : Int) + 1)), .int .i64 b3, .int .i64 ro, .int .i64 we, .int .i64 lg] 25)).block).old hb4.block)
        clear hb4 p0 p1 p2 p3 p4 p5 p6 p7
        obtain ⟨p0, p1, p2, p3, p4, p5, p6, p7⟩ := cells8 HX4.out
        go_wp2_with fail
        refine (HN.out _ HKS4.out).mono ?_
        rintro e w5 ⟨hb5, ⟨_, ga, Aa, ka, rfl, hla, _, _, _⟩ | ⟨hne, _⟩⟩
        · have HB5 := Lib.hid (HBd.out.trans (hb5.mono HBd.out.size))
          have HY5 := Lib.hid (blk_below HY4.out hb5)
          have HKS5 := Lib.hid (HKS4.out.old hb5.block)
          have HLA := Lib.hid hla
          clear hb5 hla p0 p1 p2 p3 p4 p5 p6 p7
          obtain ⟨p0, p1, p2, p3, p4, p5, p6, p7⟩ := cells8 HY5.out
          go_wp2_with fail
          refine (HNd.out _ HKS5.out).mono ?_
          rintro e w6 ⟨hb6, ⟨_, gd, Ad, kd, rfl, hld, _, _, _⟩ | ⟨hne, _⟩⟩
          · have HB6 := Lib.hid (HB5.out.trans (hb6.mono HB5.out.size))
            have HLA6 := Lib.hid (HLA.out.below hb6)
            have HLD6 := Lib.hid hld
            have HW := Lib.hid (words_any ga Aa ka ⟨ks, b0, b1, b2, b3, ro, we, lg⟩ w6 HLA6.out)
            have HWd := Lib.hid (words_any gd Ad kd ⟨ks, b0, b1, (b2 + ((m : Int) + 1)), b3, ro, we, lg⟩ w6 HLD6.out)
            have HTa := Lib.hid (fun W (h : LAt W ga Aa ka ⟨ks, b0, b1, b2, b3, ro, we, lg⟩) => at_any ga Aa ka ks b0 b1 b2 b3 ro we lg 0 W h HA.out.fit)
            have HTd := Lib.hid (fun W (h : LAt W gd Ad kd ⟨ks, b0, b1, (b2 + ((m : Int) + 1)), b3, ro, we, lg⟩) => at_any gd Ad kd ks b0 b1 (b2 + ((m : Int) + 1)) b3 ro we lg 0 W h HDA.out.fit)
            have HBa := Lib.hid (fun W (h : LAt W ga Aa ka ⟨ks, b0, b1, b2, b3, ro, we, lg⟩) => blocks_any ga Aa ka ks b0 b1 b2 b3 ro we lg W h (Rg.arg_bd HA.out))
            have HBd := Lib.hid (fun W (h : LAt W gd Ad kd ⟨ks, b0, b1, (b2 + ((m : Int) + 1)), b3, ro, we, lg⟩) => blocks_any gd Ad kd ks b0 b1 (b2 + ((m : Int) + 1)) b3 ro we lg W h (Rg.arg_bd HDA.out))
            have HPa := Lib.hid (fun W (h : LAt W ga Aa ka ⟨ks, b0, b1, b2, b3, ro, we, lg⟩) => pages_any ga Aa ka ks b0 b1 b2 b3 ro we lg W h (Rg.arg_bd HA.out))
            have HPd := Lib.hid (fun W (h : LAt W gd Ad kd ⟨ks, b0, b1, (b2 + ((m : Int) + 1)), b3, ro, we, lg⟩) => pages_any gd Ad kd ks b0 b1 (b2 + ((m : Int) + 1)) b3 ro we lg W h (Rg.arg_bd HDA.out))
            have i1 := words_le HLE.out
            have i2 : atA ⟨ks, b0, b1, b2, b3, ro, we, lg⟩ 0 ≤ atA ⟨ks, b0, b1, (b2 + ((m : Int) + 1)), b3, ro, we, lg⟩ 0 := by rw [at0 HA.out, at0 HDA.out]; exact blocks_le HLE.out
            have i3 := pages_le HLE.out
            obtain ⟨v1, e1⟩ : ∃ v, wordsA ⟨ks, b0, b1, b2, b3, ro, we, lg⟩ = v := ⟨_, rfl⟩
            obtain ⟨v2, e2⟩ : ∃ v, wordsA ⟨ks, b0, b1, (b2 + ((m : Int) + 1)), b3, ro, we, lg⟩ = v := ⟨_, rfl⟩
            obtain ⟨v3, e3⟩ : ∃ v, atA ⟨ks, b0, b1, b2, b3, ro, we, lg⟩ 0 = v := ⟨_, rfl⟩
            obtain ⟨v4, e4⟩ : ∃ v, atA ⟨ks, b0, b1, (b2 + ((m : Int) + 1)), b3, ro, we, lg⟩ 0 = v := ⟨_, rfl⟩
            obtain ⟨v5, e5⟩ : ∃ v, pagesA ⟨ks, b0, b1, b2, b3, ro, we, lg⟩ = v := ⟨_, rfl⟩
            obtain ⟨v6, e6⟩ : ∃ v, pagesA ⟨ks, b0, b1, (b2 + ((m : Int) + 1)), b3, ro, we, lg⟩ = v := ⟨_, rfl⟩
            rw [e1] at HW i1
            rw [e2] at HWd i1
            rw [e3] at HTa i2
            rw [e4] at HTd i2
            rw [e5] at HPa i3
            rw [e6] at HPd i3
            clear e1 e2 e3 e4 e5 e6 hb6 hld p0 p1 p2 p3 p4 p5 p6 p7
            go_wp2_with fail
            refine HWd.out.mono ?_
            rintro e w7 ⟨rfl, rfl⟩
            go_wp2_with fail
            refine HW.out.mono ?_
            rintro e w7 ⟨rfl, rfl⟩
            go_wp2_with fail
            refine (HTd.out _ HLD6.out).mono ?_
            rintro e w7 ⟨rfl, hb7⟩
            have HB7 := Lib.hid (HB6.out.trans (hb7.mono HB6.out.size))
            have HLA7 := Lib.hid (HLA6.out.below hb7)
            have HLD7 := Lib.hid (HLD6.out.below hb7)
            clear hb7
            go_wp2_with fail
            refine (HTa.out _ HLA7.out).mono ?_
            rintro e w8 ⟨rfl, hb7⟩
            have HB8 := Lib.hid (HB7.out.trans (hb7.mono HB7.out.size))
            have HLA8 := Lib.hid (HLA7.out.below hb7)
            have HLD8 := Lib.hid (HLD7.out.below hb7)
            clear hb7
            go_wp2_with fail
            refine (HBd.out _ HLD8.out).mono ?_
            rintro e w9 ⟨rfl, hb7⟩
            have HB9 := Lib.hid (HB8.out.trans (hb7.mono HB8.out.size))
            have HLA9 := Lib.hid (HLA8.out.below hb7)
            have HLD9 := Lib.hid (HLD8.out.below hb7)
            clear hb7
            go_wp2_with fail
            refine (HBa.out _ HLA9.out).mono ?_
            rintro e w10 ⟨rfl, hb7⟩
            have HB10 := Lib.hid (HB9.out.trans (hb7.mono HB9.out.size))
            have HLA10 := Lib.hid (HLA9.out.below hb7)
            have HLD10 := Lib.hid (HLD9.out.below hb7)
            clear hb7
            go_wp2_with fail
            refine (HPd.out _ HLD10.out).mono ?_
            rintro e w11 ⟨rfl, hb7⟩
            have HB11 := Lib.hid (HB10.out.trans (hb7.mono HB10.out.size))
            have HLA11 := Lib.hid (HLA10.out.below hb7)
            have HLD11 := Lib.hid (HLD10.out.below hb7)
            clear hb7
            go_wp2_with fail
            refine (HPa.out _ HLA11.out).mono ?_
            rintro e w12 ⟨rfl, hb7⟩
            have HB12 := Lib.hid (HB11.out.trans (hb7.mono HB11.out.size))
            have HLA12 := Lib.hid (HLA11.out.below hb7)
            have HLD12 := Lib.hid (HLD11.out.below hb7)
            clear hb7
            go_wp2_with fail
            refine (Aw.awake_any _).mono ?_
            rintro e w13 ⟨rfl, hb7⟩
            have HB13 := Lib.hid (HB12.out.trans (hb7.mono HB12.out.size))
            clear hb7
            go_wp2
            go_ret
            exact ⟨rfl, HB13.out⟩
          · exact absurd HDZ.out hne
        · exact absurd HEZ.out hne
      · obtain ⟨E, hE⟩ : ∃ E, mayE ⟨ks, b0, b1, (b2 + ((m : Int) + 1)), b3, ro, we, lg⟩ = E := ⟨_, rfl⟩
        rw [hE] at HMd hd
        have be : (E == 0) = false := beq_eq_false_iff_ne.2 hd
        have bn : (E != 0) = true := bne_iff_ne.2 hd
        clear hE HEd
        go_enter Try.func3, Try.ntmps3
        go_wp2_with fail
        refine HLT.out.mono ?_
        rintro e w2 ⟨rfl, hb2⟩
        have HB2 := Lib.hid (HB0.out.trans (hb2.mono HB0.out.size))
        have HX2 := Lib.hid (blk_below HX0.out hb2)
        have HKS2 := Lib.hid (HKS.out.old hb2.block)
        clear hb2 p0 p1 p2 p3 p4 p5 p6 p7
        obtain ⟨p0, p1, p2, p3, p4, p5, p6, p7⟩ := cells8 HX2.out
        go_wp2_with fail
        refine (HM.out _ HKS2.out).mono ?_
        rintro e w3 ⟨rfl, hb3⟩
        have HB3 := Lib.hid (HB2.out.trans (hb3.mono HB2.out.size))
        have HX3 := Lib.hid (blk_below HX2.out hb3)
        have HKS3 := Lib.hid (HKS2.out.old hb3.block)
        clear hb3 p0 p1 p2 p3 p4 p5 p6 p7
        obtain ⟨p0, p1, p2, p3, p4, p5, p6, p7⟩ := cells8 HX3.out
        go_wp2_with fail
        refine (HMd.out _ (HKS3.out.old ((Below.refl _ _).alloc (Nat.le_refl _) _).block)).mono ?_
        rintro e w4 ⟨rfl, hb4⟩
        have HBd := Lib.hid ((HB3.out.alloc HB3.out.size (.cells #[.slice A ks.length k, .int .i64 b0, .int .i64 b1, .int .i64 (b2 + ((m : Int) + 1)), .int .i64 b3, .int .i64 ro, .int .i64 we, .int .i64 lg] 25)).trans (hb4.mono (HB3.out.alloc HB3.out.size (.cells #[.slice A ks.length k, .int .i64 b0, .int .i64 b1, .int .i64 (b2 + ((m : Int) + 1)), .int .i64 b3, .int .i64 ro, .int .i64 we, .int .i64 lg] 25)).size))
        clear hb4
        go_wp2_with fail
        refine (Aw.awake_any _).mono ?_
        rintro e w5 ⟨rfl, hb5⟩
        have HB5 := Lib.hid (HBd.out.trans (hb5.mono HBd.out.size))
        clear hb5
        go_wp2
        go_ret
        exact ⟨rfl, HB5.out⟩
    · have HMd := Lib.hid (fun (W : World) (h : Ks W A ks) => Mr.rmay_any A k ks b0 b1 b2 (b3 + ((m : Int) + 1)) ro we lg W h)
      have HNd := Lib.hid (fun (W : World) (h : Ks W A ks) => new_any A k ks b0 b1 b2 (b3 + ((m : Int) + 1)) ro we lg W h)
      have HEd : Hid (mayE ⟨ks, b0, b1, b2, (b3 + ((m : Int) + 1)), ro, we, lg⟩ = 0 → Arg ⟨ks, b0, b1, b2, (b3 + ((m : Int) + 1)), ro, we, lg⟩) := Lib.hid (fun h => (mayE_zero h).1)
      have HLE : Hid (Le ⟨ks, b0, b1, b2, b3, ro, we, lg⟩ ⟨ks, b0, b1, b2, (b3 + ((m : Int) + 1)), ro, we, lg⟩) := Lib.hid ⟨rfl, by dsimp only; omega, by dsimp only; omega, by dsimp only; omega, by dsimp only; omega, by dsimp only; omega, by dsimp only; omega, by dsimp only; omega⟩
      have hqod : wrap64 ((IntKind.u64.wrap a1).tmod 6) = 3 := hqod
      by_cases hd : mayE ⟨ks, b0, b1, b2, (b3 + ((m : Int) + 1)), ro, we, lg⟩ = 0
      · rw [hd] at HMd
        have HDZ := Lib.hid hd
        have HDA := Lib.hid (HEd.out hd)
        clear hd HEd
        go_enter Try.func3, Try.ntmps3
        go_wp2_with fail
        refine HLT.out.mono ?_
        rintro e w2 ⟨rfl, hb2⟩
        have HB2 := Lib.hid (HB0.out.trans (hb2.mono HB0.out.size))
        have HX2 := Lib.hid (blk_below HX0.out hb2)
        have HKS2 := Lib.hid (HKS.out.old hb2.block)
        clear hb2 p0 p1 p2 p3 p4 p5 p6 p7
        obtain ⟨p0, p1, p2, p3, p4, p5, p6, p7⟩ := cells8 HX2.out
        go_wp2_with fail
        refine (HM.out _ HKS2.out).mono ?_
        rintro e w3 ⟨rfl, hb3⟩
        have HB3 := Lib.hid (HB2.out.trans (hb3.mono HB2.out.size))
        have HX3 := Lib.hid (blk_below HX2.out hb3)
        have HKS3 := Lib.hid (HKS2.out.old hb3.block)
        clear hb3 p0 p1 p2 p3 p4 p5 p6 p7
        obtain ⟨p0, p1, p2, p3, p4, p5, p6, p7⟩ := cells8 HX3.out
        go_wp2_with fail
        refine (HMd.out _ (HKS3.out.old ((Below.refl _ _).alloc (Nat.le_refl _) _).block)).mono ?_
        rintro e w4 ⟨rfl, hb4⟩
        have HBd := Lib.hid ((HB3.out.alloc HB3.out.size (.cells #[.slice A ks.length k, .int .i64 b0, .int .i64 b1, .int .i64 b2, .int .i64 (b3 + ((m : Int) + 1)), .int .i64 ro, .int .i64 we, .int .i64 lg] 25)).trans (hb4.mono (HB3.out.alloc HB3.out.size (.cells #[.slice A ks.length k, .int .i64 b0, .int .i64 b1, .int .i64 b2, .int .i64 (b3 + ((m : Int) + 1)), .int .i64 ro, .int .i64 we, .int .i64 lg] 25)).size))
        have HY4 := Lib.hid (blk_below (heap_alloc_new w3 (.cells #[.slice A ks.length k, .int .i64 b0, .int .i64 b1, .int .i64 b2, .int .i64 (b3 + ((m : Int) + 1)), .int .i64 ro, .int .i64 we, .int .i64 lg] 25)) hb4)
        have HX4 := Lib.hid (blk_below (blk_alloc HX3.out (.cells #[.slice A ks.length k, .int .i64 b0, .int .i64 b1, .int .i64 b2, .int .i64 (b3 + ((m : Int) + 1)), .int .i64 ro, .int .i64 we, .int .i64 lg] 25)) hb4)
        have HKS4 := Lib.hid ((HKS3.out.old ((Below.refl _ _).alloc (Nat.le_refl _) (.cells #[.slice A ks.length k, .int .i64 b0, .int .i64 b1, .int .i64 b2, .int .i64 (b3 + ((m : Int) + 1)), .int .i64 ro, .int .i64 we, .int .i64 lg] 25)).block).old hb4.block)
        clear hb4 p0 p1 p2 p3 p4 p5 p6 p7
        obtain ⟨p0, p1, p2, p3, p4, p5, p6, p7⟩ := cells8 HX4.out
        go_wp2_with fail
        refine (HN.out _ HKS4.out).mono ?_
        rintro e w5 ⟨hb5, ⟨_, ga, Aa, ka, rfl, hla, _, _, _⟩ | ⟨hne, _⟩⟩
        · have HB5 := Lib.hid (HBd.out.trans (hb5.mono HBd.out.size))
          have HY5 := Lib.hid (blk_below HY4.out hb5)
          have HKS5 := Lib.hid (HKS4.out.old hb5.block)
          have HLA := Lib.hid hla
          clear hb5 hla p0 p1 p2 p3 p4 p5 p6 p7
          obtain ⟨p0, p1, p2, p3, p4, p5, p6, p7⟩ := cells8 HY5.out
          go_wp2_with fail
          refine (HNd.out _ HKS5.out).mono ?_
          rintro e w6 ⟨hb6, ⟨_, gd, Ad, kd, rfl, hld, _, _, _⟩ | ⟨hne, _⟩⟩
          · have HB6 := Lib.hid (HB5.out.trans (hb6.mono HB5.out.size))
            have HLA6 := Lib.hid (HLA.out.below hb6)
            have HLD6 := Lib.hid hld
            have HW := Lib.hid (words_any ga Aa ka ⟨ks, b0, b1, b2, b3, ro, we, lg⟩ w6 HLA6.out)
            have HWd := Lib.hid (words_any gd Ad kd ⟨ks, b0, b1, b2, (b3 + ((m : Int) + 1)), ro, we, lg⟩ w6 HLD6.out)
            have HTa := Lib.hid (fun W (h : LAt W ga Aa ka ⟨ks, b0, b1, b2, b3, ro, we, lg⟩) => at_any ga Aa ka ks b0 b1 b2 b3 ro we lg 0 W h HA.out.fit)
            have HTd := Lib.hid (fun W (h : LAt W gd Ad kd ⟨ks, b0, b1, b2, (b3 + ((m : Int) + 1)), ro, we, lg⟩) => at_any gd Ad kd ks b0 b1 b2 (b3 + ((m : Int) + 1)) ro we lg 0 W h HDA.out.fit)
            have HBa := Lib.hid (fun W (h : LAt W ga Aa ka ⟨ks, b0, b1, b2, b3, ro, we, lg⟩) => blocks_any ga Aa ka ks b0 b1 b2 b3 ro we lg W h (Rg.arg_bd HA.out))
            have HBd := Lib.hid (fun W (h : LAt W gd Ad kd ⟨ks, b0, b1, b2, (b3 + ((m : Int) + 1)), ro, we, lg⟩) => blocks_any gd Ad kd ks b0 b1 b2 (b3 + ((m : Int) + 1)) ro we lg W h (Rg.arg_bd HDA.out))
            have HPa := Lib.hid (fun W (h : LAt W ga Aa ka ⟨ks, b0, b1, b2, b3, ro, we, lg⟩) => pages_any ga Aa ka ks b0 b1 b2 b3 ro we lg W h (Rg.arg_bd HA.out))
            have HPd := Lib.hid (fun W (h : LAt W gd Ad kd ⟨ks, b0, b1, b2, (b3 + ((m : Int) + 1)), ro, we, lg⟩) => pages_any gd Ad kd ks b0 b1 b2 (b3 + ((m : Int) + 1)) ro we lg W h (Rg.arg_bd HDA.out))
            have i1 := words_le HLE.out
            have i2 : atA ⟨ks, b0, b1, b2, b3, ro, we, lg⟩ 0 ≤ atA ⟨ks, b0, b1, b2, (b3 + ((m : Int) + 1)), ro, we, lg⟩ 0 := by rw [at0 HA.out, at0 HDA.out]; exact blocks_le HLE.out
            have i3 := pages_le HLE.out
            obtain ⟨v1, e1⟩ : ∃ v, wordsA ⟨ks, b0, b1, b2, b3, ro, we, lg⟩ = v := ⟨_, rfl⟩
            obtain ⟨v2, e2⟩ : ∃ v, wordsA ⟨ks, b0, b1, b2, (b3 + ((m : Int) + 1)), ro, we, lg⟩ = v := ⟨_, rfl⟩
            obtain ⟨v3, e3⟩ : ∃ v, atA ⟨ks, b0, b1, b2, b3, ro, we, lg⟩ 0 = v := ⟨_, rfl⟩
            obtain ⟨v4, e4⟩ : ∃ v, atA ⟨ks, b0, b1, b2, (b3 + ((m : Int) + 1)), ro, we, lg⟩ 0 = v := ⟨_, rfl⟩
            obtain ⟨v5, e5⟩ : ∃ v, pagesA ⟨ks, b0, b1, b2, b3, ro, we, lg⟩ = v := ⟨_, rfl⟩
            obtain ⟨v6, e6⟩ : ∃ v, pagesA ⟨ks, b0, b1, b2, (b3 + ((m : Int) + 1)), ro, we, lg⟩ = v := ⟨_, rfl⟩
            rw [e1] at HW i1
            rw [e2] at HWd i1
            rw [e3] at HTa i2
            rw [e4] at HTd i2
            rw [e5] at HPa i3
            rw [e6] at HPd i3
            clear e1 e2 e3 e4 e5 e6 hb6 hld p0 p1 p2 p3 p4 p5 p6 p7
            go_wp2_with fail
            refine HWd.out.mono ?_
            rintro e w7 ⟨rfl, rfl⟩
            go_wp2_with fail
            refine HW.out.mono ?_
            rintro e w7 ⟨rfl, rfl⟩
            go_wp2_with fail
            refine (HTd.out _ HLD6.out).mono ?_
            rintro e w7 ⟨rfl, hb7⟩
            have HB7 := Lib.hid (HB6.out.trans (hb7.mono HB6.out.size))
            have HLA7 := Lib.hid (HLA6.out.below hb7)
            have HLD7 := Lib.hid (HLD6.out.below hb7)
            clear hb7
            go_wp2_with fail
            refine (HTa.out _ HLA7.out).mono ?_
            rintro e w8 ⟨rfl, hb7⟩
            have HB8 := Lib.hid (HB7.out.trans (hb7.mono HB7.out.size))
            have HLA8 := Lib.hid (HLA7.out.below hb7)
            have HLD8 := Lib.hid (HLD7.out.below hb7)
            clear hb7
            go_wp2_with fail
            refine (HBd.out _ HLD8.out).mono ?_
            rintro e w9 ⟨rfl, hb7⟩
            have HB9 := Lib.hid (HB8.out.trans (hb7.mono HB8.out.size))
            have HLA9 := Lib.hid (HLA8.out.below hb7)
            have HLD9 := Lib.hid (HLD8.out.below hb7)
            clear hb7
            go_wp2_with fail
            refine (HBa.out _ HLA9.out).mono ?_
            rintro e w10 ⟨rfl, hb7⟩
            have HB10 := Lib.hid (HB9.out.trans (hb7.mono HB9.out.size))
            have HLA10 := Lib.hid (HLA9.out.below hb7)
            have HLD10 := Lib.hid (HLD9.out.below hb7)
            clear hb7
            go_wp2_with fail
            refine (HPd.out _ HLD10.out).mono ?_
            rintro e w11 ⟨rfl, hb7⟩
            have HB11 := Lib.hid (HB10.out.trans (hb7.mono HB10.out.size))
            have HLA11 := Lib.hid (HLA10.out.below hb7)
            have HLD11 := Lib.hid (HLD10.out.below hb7)
            clear hb7
            go_wp2_with fail
            refine (HPa.out _ HLA11.out).mono ?_
            rintro e w12 ⟨rfl, hb7⟩
            have HB12 := Lib.hid (HB11.out.trans (hb7.mono HB11.out.size))
            have HLA12 := Lib.hid (HLA11.out.below hb7)
            have HLD12 := Lib.hid (HLD11.out.below hb7)
            clear hb7
            go_wp2_with fail
            refine (Aw.awake_any _).mono ?_
            rintro e w13 ⟨rfl, hb7⟩
            have HB13 := Lib.hid (HB12.out.trans (hb7.mono HB12.out.size))
            clear hb7
            go_wp2
            go_ret
            exact ⟨rfl, HB13.out⟩
          · exact absurd HDZ.out hne
        · exact absurd HEZ.out hne
      · obtain ⟨E, hE⟩ : ∃ E, mayE ⟨ks, b0, b1, b2, (b3 + ((m : Int) + 1)), ro, we, lg⟩ = E := ⟨_, rfl⟩
        rw [hE] at HMd hd
        have be : (E == 0) = false := beq_eq_false_iff_ne.2 hd
        have bn : (E != 0) = true := bne_iff_ne.2 hd
        clear hE HEd
        go_enter Try.func3, Try.ntmps3
        go_wp2_with fail
        refine HLT.out.mono ?_
        rintro e w2 ⟨rfl, hb2⟩
        have HB2 := Lib.hid (HB0.out.trans (hb2.mono HB0.out.size))
        have HX2 := Lib.hid (blk_below HX0.out hb2)
        have HKS2 := Lib.hid (HKS.out.old hb2.block)
        clear hb2 p0 p1 p2 p3 p4 p5 p6 p7
        obtain ⟨p0, p1, p2, p3, p4, p5, p6, p7⟩ := cells8 HX2.out
        go_wp2_with fail
        refine (HM.out _ HKS2.out).mono ?_
        rintro e w3 ⟨rfl, hb3⟩
        have HB3 := Lib.hid (HB2.out.trans (hb3.mono HB2.out.size))
        have HX3 := Lib.hid (blk_below HX2.out hb3)
        have HKS3 := Lib.hid (HKS2.out.old hb3.block)
        clear hb3 p0 p1 p2 p3 p4 p5 p6 p7
        obtain ⟨p0, p1, p2, p3, p4, p5, p6, p7⟩ := cells8 HX3.out
        go_wp2_with fail
        refine (HMd.out _ (HKS3.out.old ((Below.refl _ _).alloc (Nat.le_refl _) _).block)).mono ?_
        rintro e w4 ⟨rfl, hb4⟩
        have HBd := Lib.hid ((HB3.out.alloc HB3.out.size (.cells #[.slice A ks.length k, .int .i64 b0, .int .i64 b1, .int .i64 b2, .int .i64 (b3 + ((m : Int) + 1)), .int .i64 ro, .int .i64 we, .int .i64 lg] 25)).trans (hb4.mono (HB3.out.alloc HB3.out.size (.cells #[.slice A ks.length k, .int .i64 b0, .int .i64 b1, .int .i64 b2, .int .i64 (b3 + ((m : Int) + 1)), .int .i64 ro, .int .i64 we, .int .i64 lg] 25)).size))
        clear hb4
        go_wp2_with fail
        refine (Aw.awake_any _).mono ?_
        rintro e w5 ⟨rfl, hb5⟩
        have HB5 := Lib.hid (HBd.out.trans (hb5.mono HBd.out.size))
        clear hb5
        go_wp2
        go_ret
        exact ⟨rfl, HB5.out⟩
    · have HMd := Lib.hid (fun (W : World) (h : Ks W A ks) => Mr.rmay_any A k ks b0 b1 b2 b3 ro we (lg + 8 * ((m : Int) + 1)) W h)
      have HNd := Lib.hid (fun (W : World) (h : Ks W A ks) => new_any A k ks b0 b1 b2 b3 ro we (lg + 8 * ((m : Int) + 1)) W h)
      have HEd : Hid (mayE ⟨ks, b0, b1, b2, b3, ro, we, (lg + 8 * ((m : Int) + 1))⟩ = 0 → Arg ⟨ks, b0, b1, b2, b3, ro, we, (lg + 8 * ((m : Int) + 1))⟩) := Lib.hid (fun h => (mayE_zero h).1)
      have HLE : Hid (Le ⟨ks, b0, b1, b2, b3, ro, we, lg⟩ ⟨ks, b0, b1, b2, b3, ro, we, (lg + 8 * ((m : Int) + 1))⟩) := Lib.hid ⟨rfl, by dsimp only; omega, by dsimp only; omega, by dsimp only; omega, by dsimp only; omega, by dsimp only; omega, by dsimp only; omega, by dsimp only; omega⟩
      have hqod : wrap64 ((IntKind.u64.wrap a1).tmod 6) = 4 := hqod
      by_cases hd : mayE ⟨ks, b0, b1, b2, b3, ro, we, (lg + 8 * ((m : Int) + 1))⟩ = 0
      · rw [hd] at HMd
        have HDZ := Lib.hid hd
        have HDA := Lib.hid (HEd.out hd)
        clear hd HEd
        go_enter Try.func3, Try.ntmps3
        go_wp2_with fail
        refine HLT.out.mono ?_
        rintro e w2 ⟨rfl, hb2⟩
        have HB2 := Lib.hid (HB0.out.trans (hb2.mono HB0.out.size))
        have HX2 := Lib.hid (blk_below HX0.out hb2)
        have HKS2 := Lib.hid (HKS.out.old hb2.block)
        clear hb2 p0 p1 p2 p3 p4 p5 p6 p7
        obtain ⟨p0, p1, p2, p3, p4, p5, p6, p7⟩ := cells8 HX2.out
        go_wp2_with fail
        refine (HM.out _ HKS2.out).mono ?_
        rintro e w3 ⟨rfl, hb3⟩
        have HB3 := Lib.hid (HB2.out.trans (hb3.mono HB2.out.size))
        have HX3 := Lib.hid (blk_below HX2.out hb3)
        have HKS3 := Lib.hid (HKS2.out.old hb3.block)
        clear hb3 p0 p1 p2 p3 p4 p5 p6 p7
        obtain ⟨p0, p1, p2, p3, p4, p5, p6, p7⟩ := cells8 HX3.out
        go_wp2_with fail
        refine (HMd.out _ (HKS3.out.old ((Below.refl _ _).alloc (Nat.le_refl _) _).block)).mono ?_
        rintro e w4 ⟨rfl, hb4⟩
        have HBd := Lib.hid ((HB3.out.alloc HB3.out.size (.cells #[.slice A ks.length k, .int .i64 b0, .int .i64 b1, .int .i64 b2, .int .i64 b3, .int .i64 ro, .int .i64 we, .int .i64 (lg + 8 * ((m : Int) + 1))] 25)).trans (hb4.mono (HB3.out.alloc HB3.out.size (.cells #[.slice A ks.length k, .int .i64 b0, .int .i64 b1, .int .i64 b2, .int .i64 b3, .int .i64 ro, .int .i64 we, .int .i64 (lg + 8 * ((m : Int) + 1))] 25)).size))
        have HY4 := Lib.hid (blk_below (heap_alloc_new w3 (.cells #[.slice A ks.length k, .int .i64 b0, .int .i64 b1, .int .i64 b2, .int .i64 b3, .int .i64 ro, .int .i64 we, .int .i64 (lg + 8 * ((m : Int) + 1))] 25)) hb4)
        have HX4 := Lib.hid (blk_below (blk_alloc HX3.out (.cells #[.slice A ks.length k, .int .i64 b0, .int .i64 b1, .int .i64 b2, .int .i64 b3, .int .i64 ro, .int .i64 we, .int .i64 (lg + 8 * ((m : Int) + 1))] 25)) hb4)
        have HKS4 := Lib.hid ((HKS3.out.old ((Below.refl _ _).alloc (Nat.le_refl _) (.cells #[.slice A ks.length k, .int .i64 b0, .int .i64 b1, .int .i64 b2, .int .i64 b3, .int .i64 ro, .int .i64 we, .int .i64 (lg + 8 * ((m : Int) + 1))] 25)).block).old hb4.block)
        clear hb4 p0 p1 p2 p3 p4 p5 p6 p7
        obtain ⟨p0, p1, p2, p3, p4, p5, p6, p7⟩ := cells8 HX4.out
        go_wp2_with fail
        refine (HN.out _ HKS4.out).mono ?_
        rintro e w5 ⟨hb5, ⟨_, ga, Aa, ka, rfl, hla, _, _, _⟩ | ⟨hne, _⟩⟩
        · have HB5 := Lib.hid (HBd.out.trans (hb5.mono HBd.out.size))
          have HY5 := Lib.hid (blk_below HY4.out hb5)
          have HKS5 := Lib.hid (HKS4.out.old hb5.block)
          have HLA := Lib.hid hla
          clear hb5 hla p0 p1 p2 p3 p4 p5 p6 p7
          obtain ⟨p0, p1, p2, p3, p4, p5, p6, p7⟩ := cells8 HY5.out
          go_wp2_with fail
          refine (HNd.out _ HKS5.out).mono ?_
          rintro e w6 ⟨hb6, ⟨_, gd, Ad, kd, rfl, hld, _, _, _⟩ | ⟨hne, _⟩⟩
          · have HB6 := Lib.hid (HB5.out.trans (hb6.mono HB5.out.size))
            have HLA6 := Lib.hid (HLA.out.below hb6)
            have HLD6 := Lib.hid hld
            have HW := Lib.hid (words_any ga Aa ka ⟨ks, b0, b1, b2, b3, ro, we, lg⟩ w6 HLA6.out)
            have HWd := Lib.hid (words_any gd Ad kd ⟨ks, b0, b1, b2, b3, ro, we, (lg + 8 * ((m : Int) + 1))⟩ w6 HLD6.out)
            have HTa := Lib.hid (fun W (h : LAt W ga Aa ka ⟨ks, b0, b1, b2, b3, ro, we, lg⟩) => at_any ga Aa ka ks b0 b1 b2 b3 ro we lg 0 W h HA.out.fit)
            have HTd := Lib.hid (fun W (h : LAt W gd Ad kd ⟨ks, b0, b1, b2, b3, ro, we, (lg + 8 * ((m : Int) + 1))⟩) => at_any gd Ad kd ks b0 b1 b2 b3 ro we (lg + 8 * ((m : Int) + 1)) 0 W h HDA.out.fit)
            have HBa := Lib.hid (fun W (h : LAt W ga Aa ka ⟨ks, b0, b1, b2, b3, ro, we, lg⟩) => blocks_any ga Aa ka ks b0 b1 b2 b3 ro we lg W h (Rg.arg_bd HA.out))
            have HBd := Lib.hid (fun W (h : LAt W gd Ad kd ⟨ks, b0, b1, b2, b3, ro, we, (lg + 8 * ((m : Int) + 1))⟩) => blocks_any gd Ad kd ks b0 b1 b2 b3 ro we (lg + 8 * ((m : Int) + 1)) W h (Rg.arg_bd HDA.out))
            have HPa := Lib.hid (fun W (h : LAt W ga Aa ka ⟨ks, b0, b1, b2, b3, ro, we, lg⟩) => pages_any ga Aa ka ks b0 b1 b2 b3 ro we lg W h (Rg.arg_bd HA.out))
            have HPd := Lib.hid (fun W (h : LAt W gd Ad kd ⟨ks, b0, b1, b2, b3, ro, we, (lg + 8 * ((m : Int) + 1))⟩) => pages_any gd Ad kd ks b0 b1 b2 b3 ro we (lg + 8 * ((m : Int) + 1)) W h (Rg.arg_bd HDA.out))
            have i1 := words_le HLE.out
            have i2 : atA ⟨ks, b0, b1, b2, b3, ro, we, lg⟩ 0 ≤ atA ⟨ks, b0, b1, b2, b3, ro, we, (lg + 8 * ((m : Int) + 1))⟩ 0 := by rw [at0 HA.out, at0 HDA.out]; exact blocks_le HLE.out
            have i3 := pages_le HLE.out
            obtain ⟨v1, e1⟩ : ∃ v, wordsA ⟨ks, b0, b1, b2, b3, ro, we, lg⟩ = v := ⟨_, rfl⟩
            obtain ⟨v2, e2⟩ : ∃ v, wordsA ⟨ks, b0, b1, b2, b3, ro, we, (lg + 8 * ((m : Int) + 1))⟩ = v := ⟨_, rfl⟩
            obtain ⟨v3, e3⟩ : ∃ v, atA ⟨ks, b0, b1, b2, b3, ro, we, lg⟩ 0 = v := ⟨_, rfl⟩
            obtain ⟨v4, e4⟩ : ∃ v, atA ⟨ks, b0, b1, b2, b3, ro, we, (lg + 8 * ((m : Int) + 1))⟩ 0 = v := ⟨_, rfl⟩
            obtain ⟨v5, e5⟩ : ∃ v, pagesA ⟨ks, b0, b1, b2, b3, ro, we, lg⟩ = v := ⟨_, rfl⟩
            obtain ⟨v6, e6⟩ : ∃ v, pagesA ⟨ks, b0, b1, b2, b3, ro, we, (lg + 8 * ((m : Int) + 1))⟩ = v := ⟨_, rfl⟩
            rw [e1] at HW i1
            rw [e2] at HWd i1
            rw [e3] at HTa i2
            rw [e4] at HTd i2
            rw [e5] at HPa i3
            rw [e6] at HPd i3
            clear e1 e2 e3 e4 e5 e6 hb6 hld p0 p1 p2 p3 p4 p5 p6 p7
            go_wp2_with fail
            refine HWd.out.mono ?_
            rintro e w7 ⟨rfl, rfl⟩
            go_wp2_with fail
            refine HW.out.mono ?_
            rintro e w7 ⟨rfl, rfl⟩
            go_wp2_with fail
            refine (HTd.out _ HLD6.out).mono ?_
            rintro e w7 ⟨rfl, hb7⟩
            have HB7 := Lib.hid (HB6.out.trans (hb7.mono HB6.out.size))
            have HLA7 := Lib.hid (HLA6.out.below hb7)
            have HLD7 := Lib.hid (HLD6.out.below hb7)
            clear hb7
            go_wp2_with fail
            refine (HTa.out _ HLA7.out).mono ?_
            rintro e w8 ⟨rfl, hb7⟩
            have HB8 := Lib.hid (HB7.out.trans (hb7.mono HB7.out.size))
            have HLA8 := Lib.hid (HLA7.out.below hb7)
            have HLD8 := Lib.hid (HLD7.out.below hb7)
            clear hb7
            go_wp2_with fail
            refine (HBd.out _ HLD8.out).mono ?_
            rintro e w9 ⟨rfl, hb7⟩
            have HB9 := Lib.hid (HB8.out.trans (hb7.mono HB8.out.size))
            have HLA9 := Lib.hid (HLA8.out.below hb7)
            have HLD9 := Lib.hid (HLD8.out.below hb7)
            clear hb7
            go_wp2_with fail
            refine (HBa.out _ HLA9.out).mono ?_
            rintro e w10 ⟨rfl, hb7⟩
            have HB10 := Lib.hid (HB9.out.trans (hb7.mono HB9.out.size))
            have HLA10 := Lib.hid (HLA9.out.below hb7)
            have HLD10 := Lib.hid (HLD9.out.below hb7)
            clear hb7
            go_wp2_with fail
            refine (HPd.out _ HLD10.out).mono ?_
            rintro e w11 ⟨rfl, hb7⟩
            have HB11 := Lib.hid (HB10.out.trans (hb7.mono HB10.out.size))
            have HLA11 := Lib.hid (HLA10.out.below hb7)
            have HLD11 := Lib.hid (HLD10.out.below hb7)
            clear hb7
            go_wp2_with fail
            refine (HPa.out _ HLA11.out).mono ?_
            rintro e w12 ⟨rfl, hb7⟩
            have HB12 := Lib.hid (HB11.out.trans (hb7.mono HB11.out.size))
            have HLA12 := Lib.hid (HLA11.out.below hb7)
            have HLD12 := Lib.hid (HLD11.out.below hb7)
            clear hb7
            go_wp2_with fail
            refine (Aw.awake_any _).mono ?_
            rintro e w13 ⟨rfl, hb7⟩
            have HB13 := Lib.hid (HB12.out.trans (hb7.mono HB12.out.size))
            clear hb7
            go_wp2
            go_ret
            exact ⟨rfl, HB13.out⟩
          · exact absurd HDZ.out hne
        · exact absurd HEZ.out hne
      · obtain ⟨E, hE⟩ : ∃ E, mayE ⟨ks, b0, b1, b2, b3, ro, we, (lg + 8 * ((m : Int) + 1))⟩ = E := ⟨_, rfl⟩
        rw [hE] at HMd hd
        have be : (E == 0) = false := beq_eq_false_iff_ne.2 hd
        have bn : (E != 0) = true := bne_iff_ne.2 hd
        clear hE HEd
        go_enter Try.func3, Try.ntmps3
        go_wp2_with fail
        refine HLT.out.mono ?_
        rintro e w2 ⟨rfl, hb2⟩
        have HB2 := Lib.hid (HB0.out.trans (hb2.mono HB0.out.size))
        have HX2 := Lib.hid (blk_below HX0.out hb2)
        have HKS2 := Lib.hid (HKS.out.old hb2.block)
        clear hb2 p0 p1 p2 p3 p4 p5 p6 p7
        obtain ⟨p0, p1, p2, p3, p4, p5, p6, p7⟩ := cells8 HX2.out
        go_wp2_with fail
        refine (HM.out _ HKS2.out).mono ?_
        rintro e w3 ⟨rfl, hb3⟩
        have HB3 := Lib.hid (HB2.out.trans (hb3.mono HB2.out.size))
        have HX3 := Lib.hid (blk_below HX2.out hb3)
        have HKS3 := Lib.hid (HKS2.out.old hb3.block)
        clear hb3 p0 p1 p2 p3 p4 p5 p6 p7
        obtain ⟨p0, p1, p2, p3, p4, p5, p6, p7⟩ := cells8 HX3.out
        go_wp2_with fail
        refine (HMd.out _ (HKS3.out.old ((Below.refl _ _).alloc (Nat.le_refl _) _).block)).mono ?_
        rintro e w4 ⟨rfl, hb4⟩
        have HBd := Lib.hid ((HB3.out.alloc HB3.out.size (.cells #[.slice A ks.length k, .int .i64 b0, .int .i64 b1, .int .i64 b2, .int .i64 b3, .int .i64 ro, .int .i64 we, .int .i64 (lg + 8 * ((m : Int) + 1))] 25)).trans (hb4.mono (HB3.out.alloc HB3.out.size (.cells #[.slice A ks.length k, .int .i64 b0, .int .i64 b1, .int .i64 b2, .int .i64 b3, .int .i64 ro, .int .i64 we, .int .i64 (lg + 8 * ((m : Int) + 1))] 25)).size))
        clear hb4
        go_wp2_with fail
        refine (Aw.awake_any _).mono ?_
        rintro e w5 ⟨rfl, hb5⟩
        have HB5 := Lib.hid (HBd.out.trans (hb5.mono HBd.out.size))
        clear hb5
        go_wp2
        go_ret
        exact ⟨rfl, HB5.out⟩
    · have HMd := Lib.hid (fun (W : World) (h : Ks W A ks) => Mr.rmay_any A k ks b0 b1 b2 b3 (ro + ((m : Int) + 1)) we lg W h)
      have HNd := Lib.hid (fun (W : World) (h : Ks W A ks) => new_any A k ks b0 b1 b2 b3 (ro + ((m : Int) + 1)) we lg W h)
      have HEd : Hid (mayE ⟨ks, b0, b1, b2, b3, (ro + ((m : Int) + 1)), we, lg⟩ = 0 → Arg ⟨ks, b0, b1, b2, b3, (ro + ((m : Int) + 1)), we, lg⟩) := Lib.hid (fun h => (mayE_zero h).1)
      have HLE : Hid (Le ⟨ks, b0, b1, b2, b3, ro, we, lg⟩ ⟨ks, b0, b1, b2, b3, (ro + ((m : Int) + 1)), we, lg⟩) := Lib.hid ⟨rfl, by dsimp only; omega, by dsimp only; omega, by dsimp only; omega, by dsimp only; omega, by dsimp only; omega, by dsimp only; omega, by dsimp only; omega⟩
      have hqod : wrap64 ((IntKind.u64.wrap a1).tmod 6) = 5 := hqod
      by_cases hd : mayE ⟨ks, b0, b1, b2, b3, (ro + ((m : Int) + 1)), we, lg⟩ = 0
      · rw [hd] at HMd
        have HDZ := Lib.hid hd
        have HDA := Lib.hid (HEd.out hd)
        clear hd HEd
        go_enter Try.func3, Try.ntmps3
        go_wp2_with fail
        refine HLT.out.mono ?_
        rintro e w2 ⟨rfl, hb2⟩
        have HB2 := Lib.hid (HB0.out.trans (hb2.mono HB0.out.size))
        have HX2 := Lib.hid (blk_below HX0.out hb2)
        have HKS2 := Lib.hid (HKS.out.old hb2.block)
        clear hb2 p0 p1 p2 p3 p4 p5 p6 p7
        obtain ⟨p0, p1, p2, p3, p4, p5, p6, p7⟩ := cells8 HX2.out
        go_wp2_with fail
        refine (HM.out _ HKS2.out).mono ?_
        rintro e w3 ⟨rfl, hb3⟩
        have HB3 := Lib.hid (HB2.out.trans (hb3.mono HB2.out.size))
        have HX3 := Lib.hid (blk_below HX2.out hb3)
        have HKS3 := Lib.hid (HKS2.out.old hb3.block)
        clear hb3 p0 p1 p2 p3 p4 p5 p6 p7
        obtain ⟨p0, p1, p2, p3, p4, p5, p6, p7⟩ := cells8 HX3.out
        go_wp2_with fail
        refine (HMd.out _ (HKS3.out.old ((Below.refl _ _).alloc (Nat.le_refl _) _).block)).mono ?_
        rintro e w4 ⟨rfl, hb4⟩
        have HBd := Lib.hid ((HB3.out.alloc HB3.out.size (.cells #[.slice A ks.length k, .int .i64 b0, .int .i64 b1, .int .i64 b2, .int .i64 b3, .int .i64 (ro + ((m : Int) + 1)), .int .i64 we, .int .i64 lg] 25)).trans (hb4.mono (HB3.out.alloc HB3.out.size (.cells #[.slice A ks.length k, .int .i64 b0, .int .i64 b1, .int .i64 b2, .int .i64 b3, .int .i64 (ro + ((m : Int) + 1)), .int .i64 we, .int .i64 lg] 25)).size))
        have HY4 := Lib.hid (blk_below (heap_alloc_new w3 (.cells #[.slice A ks.length k, .int .i64 b0, .int .i64 b1, .int .i64 b2, .int .i64 b3, .int .i64 (ro + ((m : Int) + 1)), .int .i64 we, .int .i64 lg] 25)) hb4)
        have HX4 := Lib.hid (blk_below (blk_alloc HX3.out (.cells #[.slice A ks.length k, .int .i64 b0, .int .i64 b1, .int .i64 b2, .int .i64 b3, .int .i64 (ro + ((m : Int) + 1)), .int .i64 we, .int .i64 lg] 25)) hb4)
        have HKS4 := Lib.hid ((HKS3.out.old ((Below.refl _ _).alloc (Nat.le_refl _) (.cells #[.slice A ks.length k, .int .i64 b0, .int .i64 b1, .int .i64 b2, .int .i64 b3, .int .i64 (ro + ((m : Int) + 1)), .int .i64 we, .int .i64 lg] 25)).block).old hb4.block)
        clear hb4 p0 p1 p2 p3 p4 p5 p6 p7
        obtain ⟨p0, p1, p2, p3, p4, p5, p6, p7⟩ := cells8 HX4.out
        go_wp2_with fail
        refine (HN.out _ HKS4.out).mono ?_
        rintro e w5 ⟨hb5, ⟨_, ga, Aa, ka, rfl, hla, _, _, _⟩ | ⟨hne, _⟩⟩
        · have HB5 := Lib.hid (HBd.out.trans (hb5.mono HBd.out.size))
          have HY5 := Lib.hid (blk_below HY4.out hb5)
          have HKS5 := Lib.hid (HKS4.out.old hb5.block)
          have HLA := Lib.hid hla
          clear hb5 hla p0 p1 p2 p3 p4 p5 p6 p7
          obtain ⟨p0, p1, p2, p3, p4, p5, p6, p7⟩ := cells8 HY5.out
          go_wp2_with fail
          refine (HNd.out _ HKS5.out).mono ?_
          rintro e w6 ⟨hb6, ⟨_, gd, Ad, kd, rfl, hld, _, _, _⟩ | ⟨hne, _⟩⟩
          · have HB6 := Lib.hid (HB5.out.trans (hb6.mono HB5.out.size))
            have HLA6 := Lib.hid (HLA.out.below hb6)
            have HLD6 := Lib.hid hld
            have HW := Lib.hid (words_any ga Aa ka ⟨ks, b0, b1, b2, b3, ro, we, lg⟩ w6 HLA6.out)
            have HWd := Lib.hid (words_any gd Ad kd ⟨ks, b0, b1, b2, b3, (ro + ((m : Int) + 1)), we, lg⟩ w6 HLD6.out)
            have HTa := Lib.hid (fun W (h : LAt W ga Aa ka ⟨ks, b0, b1, b2, b3, ro, we, lg⟩) => at_any ga Aa ka ks b0 b1 b2 b3 ro we lg 0 W h HA.out.fit)
            have HTd := Lib.hid (fun W (h : LAt W gd Ad kd ⟨ks, b0, b1, b2, b3, (ro + ((m : Int) + 1)), we, lg⟩) => at_any gd Ad kd ks b0 b1 b2 b3 (ro + ((m : Int) + 1)) we lg 0 W h HDA.out.fit)
            have HBa := Lib.hid (fun W (h : LAt W ga Aa ka ⟨ks, b0, b1, b2, b3, ro, we, lg⟩) => blocks_any ga Aa ka ks b0 b1 b2 b3 ro we lg W h (Rg.arg_bd HA.out))
            have HBd := Lib.hid (fun W (h : LAt W gd Ad kd ⟨ks, b0, b1, b2, b3, (ro + ((m : Int) + 1)), we, lg⟩) => blocks_any gd Ad kd ks b0 b1 b2 b3 (ro + ((m : Int) + 1)) we lg W h (Rg.arg_bd HDA.out))
            have HPa := Lib.hid (fun W (h : LAt W ga Aa ka ⟨ks, b0, b1, b2, b3, ro, we, lg⟩) => pages_any ga Aa ka ks b0 b1 b2 b3 ro we lg W h (Rg.arg_bd HA.out))
            have HPd := Lib.hid (fun W (h : LAt W gd Ad kd ⟨ks, b0, b1, b2, b3, (ro + ((m : Int) + 1)), we, lg⟩) => pages_any gd Ad kd ks b0 b1 b2 b3 (ro + ((m : Int) + 1)) we lg W h (Rg.arg_bd HDA.out))
            have i1 := words_le HLE.out
            have i2 : atA ⟨ks, b0, b1, b2, b3, ro, we, lg⟩ 0 ≤ atA ⟨ks, b0, b1, b2, b3, (ro + ((m : Int) + 1)), we, lg⟩ 0 := by rw [at0 HA.out, at0 HDA.out]; exact blocks_le HLE.out
            have i3 := pages_le HLE.out
            obtain ⟨v1, e1⟩ : ∃ v, wordsA ⟨ks, b0, b1, b2, b3, ro, we, lg⟩ = v := ⟨_, rfl⟩
            obtain ⟨v2, e2⟩ : ∃ v, wordsA ⟨ks, b0, b1, b2, b3, (ro + ((m : Int) + 1)), we, lg⟩ = v := ⟨_, rfl⟩
            obtain ⟨v3, e3⟩ : ∃ v, atA ⟨ks, b0, b1, b2, b3, ro, we, lg⟩ 0 = v := ⟨_, rfl⟩
            obtain ⟨v4, e4⟩ : ∃ v, atA ⟨ks, b0, b1, b2, b3, (ro + ((m : Int) + 1)), we, lg⟩ 0 = v := ⟨_, rfl⟩
            obtain ⟨v5, e5⟩ : ∃ v, pagesA ⟨ks, b0, b1, b2, b3, ro, we, lg⟩ = v := ⟨_, rfl⟩
            obtain ⟨v6, e6⟩ : ∃ v, pagesA ⟨ks, b0, b1, b2, b3, (ro + ((m : Int) + 1)), we, lg⟩ = v := ⟨_, rfl⟩
            rw [e1] at HW i1
            rw [e2] at HWd i1
            rw [e3] at HTa i2
            rw [e4] at HTd i2
            rw [e5] at HPa i3
            rw [e6] at HPd i3
            clear e1 e2 e3 e4 e5 e6 hb6 hld p0 p1 p2 p3 p4 p5 p6 p7
            go_wp2_with fail
            refine HWd.out.mono ?_
            rintro e w7 ⟨rfl, rfl⟩
            go_wp2_with fail
            refine HW.out.mono ?_
            rintro e w7 ⟨rfl, rfl⟩
            go_wp2_with fail
            refine (HTd.out _ HLD6.out).mono ?_
            rintro e w7 ⟨rfl, hb7⟩
            have HB7 := Lib.hid (HB6.out.trans (hb7.mono HB6.out.size))
            have HLA7 := Lib.hid (HLA6.out.below hb7)
            have HLD7 := Lib.hid (HLD6.out.below hb7)
            clear hb7
            go_wp2_with fail
            refine (HTa.out _ HLA7.out).mono ?_
            rintro e w8 ⟨rfl, hb7⟩
            have HB8 := Lib.hid (HB7.out.trans (hb7.mono HB7.out.size))
            have HLA8 := Lib.hid (HLA7.out.below hb7)
            have HLD8 := Lib.hid (HLD7.out.below hb7)
            clear hb7
            go_wp2_with fail
            refine (HBd.out _ HLD8.out).mono ?_
            rintro e w9 ⟨rfl, hb7⟩
            have HB9 := Lib.hid (HB8.out.trans (hb7.mono HB8.out.size))
            have HLA9 := Lib.hid (HLA8.out.below hb7)
            have HLD9 := Lib.hid (HLD8.out.below hb7)
            clear hb7
            go_wp2_with fail
            refine (HBa.out _ HLA9.out).mono ?_
            rintro e w10 ⟨rfl, hb7⟩
            have HB10 := Lib.hid (HB9.out.trans (hb7.mono HB9.out.size))
            have HLA10 := Lib.hid (HLA9.out.below hb7)
            have HLD10 := Lib.hid (HLD9.out.below hb7)
            clear hb7
            go_wp2_with fail
            refine (HPd.out _ HLD10.out).mono ?_
            rintro e w11 ⟨rfl, hb7⟩
            have HB11 := Lib.hid (HB10.out.trans (hb7.mono HB10.out.size))
            have HLA11 := Lib.hid (HLA10.out.below hb7)
            have HLD11 := Lib.hid (HLD10.out.below hb7)
            clear hb7
            go_wp2_with fail
            refine (HPa.out _ HLA11.out).mono ?_
            rintro e w12 ⟨rfl, hb7⟩
            have HB12 := Lib.hid (HB11.out.trans (hb7.mono HB11.out.size))
            have HLA12 := Lib.hid (HLA11.out.below hb7)
            have HLD12 := Lib.hid (HLD11.out.below hb7)
            clear hb7
            go_wp2_with fail
            refine (Aw.awake_any _).mono ?_
            rintro e w13 ⟨rfl, hb7⟩
            have HB13 := Lib.hid (HB12.out.trans (hb7.mono HB12.out.size))
            clear hb7
            go_wp2
            go_ret
            exact ⟨rfl, HB13.out⟩
          · exact absurd HDZ.out hne
        · exact absurd HEZ.out hne
      · obtain ⟨E, hE⟩ : ∃ E, mayE ⟨ks, b0, b1, b2, b3, (ro + ((m : Int) + 1)), we, lg⟩ = E := ⟨_, rfl⟩
        rw [hE] at HMd hd
        have be : (E == 0) = false := beq_eq_false_iff_ne.2 hd
        have bn : (E != 0) = true := bne_iff_ne.2 hd
        clear hE HEd
        go_enter Try.func3, Try.ntmps3
        go_wp2_with fail
        refine HLT.out.mono ?_
        rintro e w2 ⟨rfl, hb2⟩
        have HB2 := Lib.hid (HB0.out.trans (hb2.mono HB0.out.size))
        have HX2 := Lib.hid (blk_below HX0.out hb2)
        have HKS2 := Lib.hid (HKS.out.old hb2.block)
        clear hb2 p0 p1 p2 p3 p4 p5 p6 p7
        obtain ⟨p0, p1, p2, p3, p4, p5, p6, p7⟩ := cells8 HX2.out
        go_wp2_with fail
        refine (HM.out _ HKS2.out).mono ?_
        rintro e w3 ⟨rfl, hb3⟩
        have HB3 := Lib.hid (HB2.out.trans (hb3.mono HB2.out.size))
        have HX3 := Lib.hid (blk_below HX2.out hb3)
        have HKS3 := Lib.hid (HKS2.out.old hb3.block)
        clear hb3 p0 p1 p2 p3 p4 p5 p6 p7
        obtain ⟨p0, p1, p2, p3, p4, p5, p6, p7⟩ := cells8 HX3.out
        go_wp2_with fail
        refine (HMd.out _ (HKS3.out.old ((Below.refl _ _).alloc (Nat.le_refl _) _).block)).mono ?_
        rintro e w4 ⟨rfl, hb4⟩
        have HBd := Lib.hid ((HB3.out.alloc HB3.out.size (.cells #[.slice A ks.length k, .int .i64 b0, .int .i64 b1, .int .i64 b2, .int .i64 b3, .int .i64 (ro + ((m : Int) + 1)), .int .i64 we, .int .i64 lg] 25)).trans (hb4.mono (HB3.out.alloc HB3.out.size (.cells #[.slice A ks.length k, .int .i64 b0, .int .i64 b1, .int .i64 b2, .int .i64 b3, .int .i64 (ro + ((m : Int) + 1)), .int .i64 we, .int .i64 lg] 25)).size))
        clear hb4
        go_wp2_with fail
        refine (Aw.awake_any _).mono ?_
        rintro e w5 ⟨rfl, hb5⟩
        have HB5 := Lib.hid (HBd.out.trans (hb5.mono HBd.out.size))
        clear hb5
        go_wp2
        go_ret
        exact ⟨rfl, HB5.out⟩
  · have HE1 := Lib.hid he
    obtain ⟨E, hE⟩ : ∃ E, mayE ⟨ks, b0, b1, b2, b3, ro, we, lg⟩ = E := ⟨_, rfl⟩
    rw [hE] at HM he
    have be : (E == 0) = false := beq_eq_false_iff_ne.2 he
    have bn : (E != 0) = true := bne_iff_ne.2 he
    clear hE HE HE1
    go_enter Try.func3, Try.ntmps3
    go_wp2_with fail
    refine HLT.out.mono ?_
    rintro e w2 ⟨rfl, hb2⟩
    have HB2 := Lib.hid (HB0.out.trans (hb2.mono HB0.out.size))
    have HX2 := Lib.hid (blk_below HX0.out hb2)
    have HKS2 := Lib.hid (HKS.out.old hb2.block)
    clear hb2 p0 p1 p2 p3 p4 p5 p6 p7
    obtain ⟨p0, p1, p2, p3, p4, p5, p6, p7⟩ := cells8 HX2.out
    go_wp2_with fail
    refine (HM.out _ HKS2.out).mono ?_
    rintro e w3 ⟨rfl, hb3⟩
    have HB3 := Lib.hid (HB2.out.trans (hb3.mono HB2.out.size))
    clear hb3
    go_wp2_with fail
    refine (Aw.awake_any _).mono ?_
    rintro e w4 ⟨rfl, hb4⟩
    have HB4 := Lib.hid (HB3.out.trans (hb4.mono HB3.out.size))
    clear hb4
    go_wp2
    go_ret
    exact ⟨rfl, HB4.out⟩

theorem own : ownKnob Try.prog.godebug = none := by kernel_rfl
theorem laidOut : laidOutB Try.prog = true := by kernel_rfl
set_option maxRecDepth 100000 in
theorem lifted (os : Os) (started : os.Started) (H : Type) (enc : TypeId × Value → H) :
    ReturnsInHanded {} Try.checked os 3 .any (Rows.layoutGrowsSpec.pre6 enc Try.prog Try.f3 Rows.layoutGrowsRow.domain false) (Rows.layoutGrowsSpec.post enc Try.prog Try.f3 false true false false) := by
  refine returnsInHanded_of_change (C := Try.checked) own started (by kernel_rfl) Try.func3
    (ChangeSpec.witness6 (enc := enc) (C := Try.checked) false ⟨#[], #[.agg #[.slice none 0 0, .int .i64 0, .int .i64 0, .int .i64 0, .int .i64 0, .int .i64 0, .int .i64 0, .int .i64 0], .int .i64 0, .int .i64 0], []⟩ 8 (by kernel_rfl) (by kernel_rfl) (by kernel_rfl) (by kernel_rfl)) ?_
  intro W base args ds gs before hval0 hW hcnd _
  have hval : ∀ (j : Nat) t v, Try.f3.params[j]? = some t → args[j]? = some v → Value.okWide Try.prog W .any base t v := hval0
  have hW' := hW
  obtain ⟨p, q, hA0, hV, rfl, hfz, hnd⟩ := hW
  have hA : DataW.TrodAll enc Try.prog W 0 (fun _ => true) true Try.f3.params.toList args.toList ds p := hA0
  rw [Try.params3] at hA hval
  obtain ⟨v0, vs0, d0, ds0, p0, q0, hargs, rfl, rfl, h0, r0⟩ := trodAll_cons hA
  obtain ⟨v1, vs1, d1, ds1, p1, q1, rfl, rfl, rfl, h1, r1⟩ := trodAll_cons r0
  obtain ⟨v2, vs2, d2, ds2, p2, q2, rfl, rfl, rfl, h2, r2⟩ := trodAll_cons r1
  obtain ⟨rfl, rfl, rfl⟩ := trodAll_nil r2
  obtain rfl : args = #[v0, v1, v2] := by cases args; simp_all
  obtain ⟨rfl, rfl⟩ := trodVars_none hV
  have k0 := h0
  have lt0 : ∀ x ∈ p0, x.block < W.heap.size := by obtain ⟨m, hm⟩ := k0; exact DataW.trod_lt m _ _ _ hm
  obtain ⟨fuel0, hf0⟩ := h0
  obtain ⟨x0, hk0, ok0⟩ := (Ba.opens_cf) H enc W 0 _ _ _ _ _ hf0
  have hg0 := Ba.cat_of (hval 0 25 v0 rfl rfl) hk0
  obtain ⟨a1, rfl, rfl, rfl, w1⟩ := open_int Try.underlying3 (hval 1 3 v1 rfl rfl) h1
  obtain ⟨a2, rfl, rfl, rfl, w2⟩ := open_int Try.underlying3 (hval 2 3 v2 rfl rfl) h2
  clear hA0 hval0
  refine (walk W _ x0 hg0 ok0 a1 w1 a2 w2).mono fun e W' ⟨he, bel⟩ => ?_
  subst he
  exact ⟨_, rfl, _, _, _, [], _, [], hW', trodAll_mk1 (shut_bool Try.underlying4 _), (trodAll_cons_mk (Below.trod laidOut (by kernel_rfl) (of_decide_eq_true (by kernel_rfl)) k0 bel lt0) (trodAll_cons_mk (shut_int Try.underlying3 w1) (trodAll_cons_mk (shut_int Try.underlying3 w2) trodAll_mk0))), rfl, bel.frame _, fun h => by cases h⟩
theorem over : Rows.layoutGrowsRow.holds Try.pinned (OpenSpec.ofChange Rows.layoutGrowsSpec) :=
  OpenClaim.holds_of_wide 3 Try.f3 rfl rfl rfl rfl rfl rfl rfl ⟨rfl, rfl, rfl, rfl, rfl⟩ rfl rfl rfl rfl rfl (by kernel_rfl) Try.func3 (by kernel_rfl)
    (of_decide_eq_true (by kernel_rfl)) (by unfold Func.isWrapper; first | (rw [if_pos (by decide +kernel)]; kernel_rfl) | (rw [if_neg (by decide +kernel)]; exact ⟨rfl, rfl⟩))
    (fun os started H enc _ => lifted os started H enc)
theorem proved : Rows.LayoutGrowsSaid := over
#print axioms proved
end Go.Proofs.Ytlmlckidgfnhdaa.layoutGrows
