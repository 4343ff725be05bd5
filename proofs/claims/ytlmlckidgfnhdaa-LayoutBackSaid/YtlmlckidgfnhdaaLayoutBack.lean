/-
  Without the document's answers: what is written is read as it was; and no two parts share a word.
-/
import Derived.Test.YtlmlckidgfnhdaaRows
import Derived.WalkKit
import Derived.WalkSpells
import Derived.WalkLawsBesides
import Derived.WalkMore
import Derived.ProofKit
import Derived.OpenShut
import Derived.ShutString
import Derived.ChangeOld
import Derived.Below
import Derived.SizedLaws
import Derived.Lib.Hide
import Derived.Test.YtlmlckidgfnhdaaOpen
import Derived.Test.YtlmlckidgfnhdaaMy
import Derived.Test.YtlmlckidgfnhdaaAw
import Derived.Test.YtlmlckidgfnhdaaPa
import Derived.Test.YtlmlckidgfnhdaaSc
import Derived.Test.YtlmlckidgfnhdaaSr
import Derived.Test.YtlmlckidgfnhdaaTb
import Derived.Test.YtlmlckidgfnhdaaGe
import Derived.Test.YtlmlckidgfnhdaaSl
import Derived.Test.YtlmlckidgfnhdaaAp
import Derived.Test.YtlmlckidgfnhdaaPm
import Derived.Test.YtlmlckidgfnhdaaTl
namespace Go.Proofs.Ytlmlckidgfnhdaa.layoutBack
open Go.RowKit Go.ChangeShapes Go.WideShapes Go.ChangeAt Go.Proofs.YtlmlckidgfnhdaaW.PrintWords
set_option linter.unusedVariables false
open Go.Proofs.Ytlmlckidgfnhdaa.Ca Go.Proofs.Ytlmlckidgfnhdaa.Ta Go.Proofs.Ytlmlckidgfnhdaa.Rg Go.Proofs.Ytlmlckidgfnhdaa.Ba Go.Proofs.Ytlmlckidgfnhdaa.Kw Go.Proofs.Ytlmlckidgfnhdaa.Pl Go.Proofs.Ytlmlckidgfnhdaa.Pc Go.Proofs.Ytlmlckidgfnhdaa.My Go.Proofs.Ytlmlckidgfnhdaa.Nw Go.Proofs.Ytlmlckidgfnhdaa.Wd Go.Proofs.Ytlmlckidgfnhdaa.Wb Go.Proofs.Ytlmlckidgfnhdaa.Pp Go.Proofs.Ytlmlckidgfnhdaa.Su Go.Proofs.Ytlmlckidgfnhdaa.Tl
set_option maxHeartbeats 16000000
set_option maxRecDepth 100000
theorem modn (m : Int) (n : Nat) (h0 : 0 < n) (h1 : n ≤ 1000000) : ∃ d : Nat, d < n ∧ wrap64 ((IntKind.u64.wrap m).tmod (n : Int)) = (d : Int) := by
  have h2 : 0 ≤ m % 18446744073709551616 := Int.emod_nonneg _ (by omega)
  rw [IntKind.wrap_u64, Int.tmod_eq_emod_of_nonneg h2]
  have h3 := Int.emod_nonneg (m % 18446744073709551616) (show (n : Int) ≠ 0 by omega)
  have h4 := Int.emod_lt_of_pos (m % 18446744073709551616) (show (0 : Int) < (n : Int) by omega)
  refine ⟨(m % 18446744073709551616 % (n : Int)).toNat, by omega, ?_⟩
  unfold wrap64
  omega
theorem word_lt {f : List Int} (h : kM f = true) : wordK f < 18446744073709551616 := by
  unfold wordK
  rw [if_pos h]
  have h1 := pk_lt h f.length (Nat.le_refl _)
  have h2 := kM_len h
  have h3 : 2 ^ (4 + 2 * f.length) ≤ 2 ^ 60 := Nat.pow_le_pow_right (by omega) (by omega)
  have h4 : (2 : Nat) ^ 60 < 18446744073709551616 := by decide
  omega
theorem sW_lt {r e l b0 b1 b2 b3 : Nat} {ks : List (List Int)} (hk : ks.length ≤ 16) (ha : ks.all kM = true) (h0 : b0 ≤ 4096) (h1 : b1 ≤ 4096) (h2 : b2 ≤ 4096) (h3 : b3 ≤ 4096) (h4 : r ≤ 4096) (h5 : e ≤ 4096) (h6 : l ≤ 4096) : ∀ y ∈ sW r e l b0 b1 b2 b3 ks, y < 18446744073709551616 := by
  intro y hy
  unfold sW hd9 at hy
  simp only [List.cons_append, List.nil_append, List.mem_cons, List.mem_map] at hy
  rcases hy with rfl | rfl | rfl | rfl | rfl | rfl | rfl | rfl | rfl | ⟨f, hf, rfl⟩
  · decide
  · omega
  · omega
  · omega
  · omega
  · omega
  · omega
  · omega
  · omega
  · exact word_lt (List.all_eq_true.1 ha f hf)
theorem walk (w : World) (v0 : Value) (x0 : Ba.Cf) (hk0 : Ba.CAt w v0 x0) (ok0 : Ba.okC x0) (a1 : Int) (w1 : (Lit.int .i64 a1).wf = true) (a2 : Int) (w2 : (Lit.int .i64 a2).wf = true) :
    Calls Try.prog 7 #[v0, .int .i64 a1, .int .i64 a2] w fun e w' => e = .returned (.bool true) ∧ Below w.heap.size w w' := by
  obtain ⟨A, k, rfl, hk, hks⟩ := hk0
  obtain ⟨ks, b0, b1, b2, b3, ro, we, lg⟩ := x0
  dsimp only at hk hks ⊢
  have hz25 : ∀ w, (zeroValue 25).run Try.prog w = .ok (.agg #[.slice none 0 0, .int .i64 0, .int .i64 0, .int .i64 0, .int .i64 0, .int .i64 0, .int .i64 0, .int .i64 0]) w := fun w => by kernel_rfl
  have HB0 := Lib.hid ((Below.refl w.heap.size w).alloc (Nat.le_refl _) (.cells #[.slice A ks.length k, .int .i64 b0, .int .i64 b1, .int .i64 b2, .int .i64 b3, .int .i64 ro, .int .i64 we, .int .i64 lg] 25))
  have HX0 := Lib.hid (heap_alloc_new w (.cells #[.slice A ks.length k, .int .i64 b0, .int .i64 b1, .int .i64 b2, .int .i64 b3, .int .i64 ro, .int .i64 we, .int .i64 lg] 25))
  have HKS := Lib.hid (hks.old HB0.out.block)
  obtain ⟨w0, hw0⟩ : ∃ w0, w.alloc (.cells #[.slice A ks.length k, .int .i64 b0, .int .i64 b1, .int .i64 b2, .int .i64 b3, .int .i64 ro, .int .i64 we, .int .i64 lg] 25) = w0 := ⟨_, rfl⟩
  rw [hw0] at HB0 HX0 HKS
  have HLT := Lib.hid (light_any A k ks b0 b1 b2 b3 ro we lg w0 HKS.out)
  obtain ⟨p0, p1, p2, p3, p4, p5, p6, p7⟩ := cells8 HX0.out
  clear ok0 hks
  cases el : lightB ks
  · rw [el] at HLT
    clear el
    go_enter Try.func7, Try.ntmps7
    go_wp2_with fail
    refine HLT.out.mono ?_
    rintro e w2 ⟨rfl, hb2⟩
    have HB2 := Lib.hid (HB0.out.trans (hb2.mono HB0.out.size))
    clear hb2
    go_wp2_with fail
    refine (Aw.awake_any _).mono ?_
    rintro e w3 ⟨rfl, hb3⟩
    have HB3 := Lib.hid (HB2.out.trans (hb3.mono HB2.out.size))
    clear hb3
    go_wp2
    go_ret
    exact ⟨rfl, HB3.out⟩
  rw [el] at HLT
  clear el
  have HN := Lib.hid (fun (W : World) (h : Ks W A ks) => new_any A k ks b0 b1 b2 b3 ro we lg W h)
  have HE : Hid (mayE ⟨ks, b0, b1, b2, b3, ro, we, lg⟩ = 0 → Arg ⟨ks, b0, b1, b2, b3, ro, we, lg⟩) := Lib.hid (fun h => (mayE_zero h).1)
  by_cases he : mayE ⟨ks, b0, b1, b2, b3, ro, we, lg⟩ = 0
  · have HEZ := Lib.hid he
    have hA := HE.out he
    have HA := Lib.hid hA
    obtain ⟨x0, x1, _, ⟨f0, g0⟩, ⟨f1, g1⟩, ⟨f2, g2⟩, ⟨f3, g3⟩, _, ⟨f5, g5⟩, ⟨f6, g6⟩, ⟨f7, g7⟩, _⟩ := hA
    dsimp only at x0 x1 f0 g0 f1 g1 f2 g2 f3 g3 f5 g5 f6 g6 f7 g7
    clear he HE
    obtain ⟨b0, rfl⟩ := Int.eq_ofNat_of_zero_le f0
    obtain ⟨b1, rfl⟩ := Int.eq_ofNat_of_zero_le f1
    obtain ⟨b2, rfl⟩ := Int.eq_ofNat_of_zero_le f2
    obtain ⟨b3, rfl⟩ := Int.eq_ofNat_of_zero_le f3
    obtain ⟨ro, rfl⟩ := Int.eq_ofNat_of_zero_le (show 0 ≤ ro by omega)
    obtain ⟨we, rfl⟩ := Int.eq_ofNat_of_zero_le f6
    obtain ⟨lg, rfl⟩ := Int.eq_ofNat_of_zero_le (show 0 ≤ lg by omega)
    go_enter Try.func7, Try.ntmps7
    go_wp2_with fail
    refine HLT.out.mono ?_
    rintro e w2 ⟨rfl, hb2⟩
    have HB2 := Lib.hid (HB0.out.trans (hb2.mono HB0.out.size))
    have HX2 := Lib.hid (blk_below HX0.out hb2)
    have HKS2 := Lib.hid (HKS.out.old hb2.block)
    clear hb2 p0 p1 p2 p3 p4 p5 p6 p7
    obtain ⟨p0, p1, p2, p3, p4, p5, p6, p7⟩ := cells8 HX2.out
    go_wp2_with fail
    refine (HN.out _ HKS2.out).mono ?_
    rintro e w3 ⟨hb3, ⟨_, ga, Aa, ka, rfl, hla, hksa, _, _⟩ | ⟨hne, _⟩⟩
    · have HB3 := Lib.hid (HB2.out.trans (hb3.mono HB2.out.size))
      have HX3 := Lib.hid (blk_below HX2.out hb3)
      have HKS3 := Lib.hid (HKS2.out.old hb3.block)
      have HLA3 := Lib.hid hla
      have HSU := Lib.hid (super_any ga Aa ka ks b0 b1 b2 b3 ro we lg w3 hla hksa x1 (by omega) (by omega) (by omega) (by omega) (by omega) (by omega) (by omega))
      have hSl := sW_len ro we lg b0 b1 b2 b3 ks
      have HLT := Lib.hid (sW_lt (r := ro) (e := we) (l := lg) (b0 := b0) (b1 := b1) (b2 := b2) (b3 := b3) x1 HA.out.k (by omega) (by omega) (by omega) (by omega) (by omega) (by omega) (by omega))
      have HRS := Lib.hid (fun (W : World) (h : Ks W A ks) => Sr.rsuper_any A k ks b0 b1 b2 b3 ro we lg W h x1 (by omega) (by omega) (by omega) (by omega) (by omega) (by omega) (by omega))
      have HBK := Lib.hid (Tb.back (ks := ks) (r := ro) (e := we) (l := lg) (b0 := b0) (b1 := b1) (b2 := b2) (b3 := b3) HEZ.out)
      obtain ⟨S, hS⟩ : ∃ S, sW ro we lg b0 b1 b2 b3 ks = S := ⟨_, rfl⟩
      rw [hS] at HSU hSl HLT HRS HBK
      have HSL := Lib.hid hSl
      have hS0 : 9 ≤ S.length ∧ S.length ≤ 25 := by omega
      have ke : ∀ W : World, (binOp .eql 31 (.pointer (some ⟨ga, 0, none⟩)) (.pointer none)).run Try.prog W = .ok (.bool false) W := fun W => by rfl
      clear hb3 hla hksa hS hSl p0 p1 p2 p3 p4 p5 p6 p7
      go_wp2_with fail
      refine HSU.out.mono ?_
      rintro e w4 ⟨v4, rfl, ho4, hb4⟩
      obtain ⟨g, cap, rfl, hg, hglt⟩ := World.ownsRow.form ho4 (by omega)
      have HB4 := Lib.hid (HB3.out.trans (hb4.mono HB3.out.size))
      have hba := (Below.refl w4.heap.size w4).alloc (Nat.le_refl _) (.cells #[.int .u64 1, .int .u64 2] 30)
      obtain ⟨A9, c9, w5, hrun, hro5, hb5, hw5⟩ := Ap.run_append_two (W := w4.alloc (.cells #[.int .u64 1, .int .u64 2] 30)) (pw_own_below ho4 hba) (by omega) (Nat.le_trans hb4.size (by rw [size_al]; omega)) w4.heap.size (heap_alloc_new w4 _)
      have HRUN := Lib.hid hrun
      have HB5 : Hid (Below w3.heap.size w3 w5) := Lib.hid ((hb4.trans (hba.mono hb4.size)).trans hb5)
      have HB5w := Lib.hid (HB3.out.trans (HB5.out.mono HB3.out.size))
      have HWS5 := Lib.hid hw5
      have hlen2 : (S ++ [1, 2]).length = S.length + 2 := by rw [List.length_append]; rfl
      obtain ⟨_, _, eq9, hc9, hwr9⟩ : ∃ A c, (Value.slice A9 (S.length + 2) c9) = .slice A (S ++ [1, 2]).length c ∧ (S ++ [1, 2]).length ≤ c ∧ WR w5 A (S ++ [1, 2]) := by
        obtain ⟨g9, cap9, e9, _, _⟩ := World.ownsRow.form hro5 (by rw [hlen2]; omega)
        refine ⟨some ⟨g9, 0, none⟩, cap9, e9, ?_, Ap.wr_own (by rw [e9] at hro5; exact hro5)⟩
        rw [e9] at hro5
        rcases hro5.2 with ⟨h, _⟩ | ⟨_, _, _, h, _, _, hh, _⟩
        · cases h
        · injection h with _ _ h
          rw [h]; exact hh
      rw [hlen2] at eq9
      injection eq9 with eA _ eC
      subst eA eC
      have HPA := Lib.hid (Pa.parse_any A9 c9 (S ++ [1, 2]) w5 hwr9 (by rw [hlen2]; omega) hc9 (fun y hy => by rcases List.mem_append.1 hy with h | h; exact HLT.out y h; simp only [List.mem_cons, List.not_mem_nil, or_false] at h; omega))
      rw [hlen2] at HPA
      clear ho4 hb4 hba hrun hro5 hb5 hw5 hlen2 hc9 hwr9 hg hglt
      go_wp2_with (at_builtin; refine Ap.wpList_append_two (W := w4.alloc (.cells #[.int .u64 1, .int .u64 2] 30)) rfl (.tmp 35) (.tmp 36) rfl rfl _ _ _ _ rfl rfl HRUN.out ?_)
      go_wp2_with fail
      refine HPA.out.mono ?_
      rintro e w6 ⟨hb6, ⟨_, Ad, kd, rfl, hkd, hld⟩ | ⟨hno, _⟩⟩
      · rw [HBK.out.2] at hkd hld ⊢
        dsimp only at hkd hld ⊢
        have HB7 := Lib.hid ((HB5w.out.trans (hb6.mono HB5w.out.size)).alloc (HB5w.out.trans (hb6.mono HB5w.out.size)).size (.cells #[.slice Ad ks.length kd, .int .i64 (b0 : Int), .int .i64 (b1 : Int), .int .i64 (b2 : Int), .int .i64 (b3 : Int), .int .i64 (ro : Int), .int .i64 (we : Int), .int .i64 (lg : Int)] 25))
        have HV7 := Lib.hid ((HB5.out.trans (hb6.mono HB5.out.size)).alloc (HB5.out.trans (hb6.mono HB5.out.size)).size (.cells #[.slice Ad ks.length kd, .int .i64 (b0 : Int), .int .i64 (b1 : Int), .int .i64 (b2 : Int), .int .i64 (b3 : Int), .int .i64 (ro : Int), .int .i64 (we : Int), .int .i64 (lg : Int)] 25))
        have hbl := (Below.refl w6.heap.size w6).alloc (Nat.le_refl _) (.cells #[.slice Ad ks.length kd, .int .i64 (b0 : Int), .int .i64 (b1 : Int), .int .i64 (b2 : Int), .int .i64 (b3 : Int), .int .i64 (ro : Int), .int .i64 (we : Int), .int .i64 (lg : Int)] 25)
        have HWS7 := Lib.hid ((HWS5.out.old hb6.block).old hbl.block)
        have HSC := Lib.hid (Sc2.samecfg_self A Ad k kd ks b0 b1 b2 b3 ro we lg _ (HKS3.out.old HV7.out.block) (hkd.old hbl.block) (by omega) (fun f hf => by have := kM_len (List.all_eq_true.1 HA.out.k f hf); omega))
        obtain ⟨p0, p1, p2, p3, p4, p5, p6, p7⟩ := cells8 (blk_below HX3.out HV7.out)
        clear hb6 hkd hbl
        go_wp2_with fail
        refine HSC.out.mono ?_
        rintro e w8 ⟨rfl, hb8⟩
        have HB8 := Lib.hid (HB7.out.trans (hb8.mono HB7.out.size))
        have HV8 := Lib.hid (HV7.out.trans (hb8.mono HV7.out.size))
        have HWS8 := Lib.hid (HWS7.out.old hb8.block)
        clear hb8 p0 p1 p2 p3 p4 p5 p6 p7
        obtain ⟨p0, p1, p2, p3, p4, p5, p6, p7⟩ := cells8 (blk_below HX3.out HV8.out)
        go_wp2_with fail
        refine (HRS.out _ (HKS3.out.old HV8.out.block)).mono ?_
        rintro e w9 ⟨v9, rfl, ho9, hb9⟩
        obtain ⟨g9, cap9, rfl, _, _⟩ := World.ownsRow.form ho9 (by omega)
        have hsw := Sr.samewords_any (some ⟨g, 0, none⟩) (some ⟨g9, 0, none⟩) cap cap9 S S w9 (HWS8.out.old hb9.block) (Ap.wr_own ho9) (by omega)
        rw [show decide (S = S) = true by simp] at hsw
        have HSW := Lib.hid hsw
        have HB9 := Lib.hid (HB8.out.trans (hb9.mono HB8.out.size))
        have HV9 := Lib.hid (HV8.out.trans (hb9.mono HV8.out.size))
        clear hsw ho9 hb9 p0 p1 p2 p3 p4 p5 p6 p7
        have HL9 := Lib.hid (HLA3.out.below HV9.out)
        obtain ⟨z1, z2, z3, z4, z5, z6, z7, z8, z9⟩ := Ge.parts HA.out
        dsimp only at z1 z2
        have hbd := blocks_b HA.out.fit
        have hFb : blocksA ⟨ks, b0, b1, b2, b3, ro, we, lg⟩ = logA ⟨ks, b0, b1, b2, b3, ro, we, lg⟩ + lg := rfl
        have hN1 : 0 < (b0 : Int) + b1 + b2 + b3 := HA.out.s
        have hcn : cnt ⟨ks, b0, b1, b2, b3, ro, we, lg⟩ = (b0 : Int) + b1 + b2 + b3 := rfl
        obtain ⟨N, hN⟩ : ∃ N : Nat, b0 + b1 + b2 + b3 = N := ⟨_, rfl⟩
        have hNs : (b0 : Int) + b1 + b2 + b3 = (N : Int) := by omega
        rw [hNs] at hcn hN1
        rw [hcn] at z3
        obtain ⟨da, hda, hdam⟩ := modn a1 N (by omega) (by omega)
        obtain ⟨db, hdb, hdbm⟩ := modn a2 N (by omega) (by omega)
        have hwN : IntKind.u64.wrap (N : Int) = (N : Int) := wrap_nat _ (by omega)
        have HBD := Lib.hid (Rg.arg_bd HA.out)
        have HRT := Lib.hid (fun (W : World) (i : Int) (h : LAt W ga Aa ka ⟨ks, b0, b1, b2, b3, ro, we, lg⟩) (h0 : 0 ≤ i) (h1 : i < ro) => Sl.root_any ga Aa ka ⟨ks, b0, b1, b2, b3, ro, we, lg⟩ i W h h0 h1 (by omega) (by dsimp only; omega))
        have HWK := Lib.hid (fun (W : World) (i : Int) (h : LAt W ga Aa ka ⟨ks, b0, b1, b2, b3, ro, we, lg⟩) (h0 : 0 ≤ i) (h1 : i < we) => Sl.weak_any ga Aa ka ⟨ks, b0, b1, b2, b3, ro, we, lg⟩ i W h h0 h1 (by omega) (by dsimp only; omega) (by dsimp only; omega))
        have HLG := Lib.hid (fun (W : World) (h : LAt W ga Aa ka ⟨ks, b0, b1, b2, b3, ro, we, lg⟩) => Sl.log_any ga Aa ka ⟨ks, b0, b1, b2, b3, ro, we, lg⟩ W h (by omega) (by dsimp only; omega))
        have HBL := Lib.hid (fun (W : World) (h : LAt W ga Aa ka ⟨ks, b0, b1, b2, b3, ro, we, lg⟩) => blocks_any ga Aa ka ks b0 b1 b2 b3 ro we lg W h HBD.out)
        have HBI := Lib.hid (fun (W : World) (b : Int) (h : LAt W ga Aa ka ⟨ks, b0, b1, b2, b3, ro, we, lg⟩) (h0 : 0 ≤ b) (h1 : b < (N : Int)) => Sl.bits_any ga Aa ka ks b0 b1 b2 b3 ro we lg b W h HBD.out (Ge.cls_in HA.out h0 (by rw [hcn]; exact h1)).1 h0 (by omega) (by omega))
        have HSZ := Lib.hid (fun (W : World) (b : Int) (h : LAt W ga Aa ka ⟨ks, b0, b1, b2, b3, ro, we, lg⟩) (h0 : 0 ≤ b) (h1 : b < (N : Int)) => Sl.size_any ga Aa ka ks b0 b1 b2 b3 ro we lg b W h HBD.out (Ge.cls_in HA.out h0 (by rw [hcn]; exact h1)).1)
        have HAT := Lib.hid (fun (W : World) (b : Int) (h : LAt W ga Aa ka ⟨ks, b0, b1, b2, b3, ro, we, lg⟩) => at_any ga Aa ka ks b0 b1 b2 b3 ro we lg b W h HA.out.fit)
        have HCL := Lib.hid (fun (W : World) (b : Int) (h : LAt W ga Aa ka ⟨ks, b0, b1, b2, b3, ro, we, lg⟩) => class_any ga Aa ka ks b0 b1 b2 b3 ro we lg b W h HBD.out)
        have HWO := Lib.hid (fun (W : World) (h : LAt W ga Aa ka ⟨ks, b0, b1, b2, b3, ro, we, lg⟩) => words_any ga Aa ka ⟨ks, b0, b1, b2, b3, ro, we, lg⟩ W h)
        have HAP := Lib.hid (fun (a b : Int) (h0 : 0 ≤ a) (h1 : a ≤ b) (h2 : b < (N : Int)) => Ge.apart HA.out h0 h1 (by rw [hcn]; exact h2))
        have hen := Ge.ends HA.out
        rw [hcn] at hen
        have hat0 := Pm.at0 HA.out
        rw [hNs] at HBL
        have hcs := Ge.at_cases HA.out (show 0 ≤ (N : Int) - 1 by omega) (by rw [hcn]; omega)
        have hs3 : 0 ≤ sz (cls ⟨ks, b0, b1, b2, b3, ro, we, lg⟩ ((N : Int) - 1)) := by
          rcases hcs with h | h | h | h
          all_goals omega
        have hap0 := (HAP.out 0 ((N : Int) - 1) (by omega) (by omega) (by omega)).1
        have hwb : 0 ≤ wordsA ⟨ks, b0, b1, b2, b3, ro, we, lg⟩ ∧ wordsA ⟨ks, b0, b1, b2, b3, ro, we, lg⟩ ≤ 65536 := ⟨by omega, (mayE_zero HEZ.out).2⟩
        clear hcs
        go_wp2_with fail
        refine HSW.out.mono ?_
        rintro e w10 ⟨rfl, hb10⟩
        have HB10 := Lib.hid (HB9.out.trans (hb10.mono HB9.out.size))
        have HV10 := Lib.hid (HV9.out.trans (hb10.mono HV9.out.size))
        have HL10 := Lib.hid (HL9.out.below hb10)
        clear hb10
        generalize rootsA ⟨ks, b0, b1, b2, b3, ro, we, lg⟩ = RA at *
        generalize bitsA ⟨ks, b0, b1, b2, b3, ro, we, lg⟩ = BA at *
        generalize logA ⟨ks, b0, b1, b2, b3, ro, we, lg⟩ = LG at *
        generalize blocksA ⟨ks, b0, b1, b2, b3, ro, we, lg⟩ = BK at *
        generalize wordsA ⟨ks, b0, b1, b2, b3, ro, we, lg⟩ = WA at *
        have hSR : (S.length : Int) ≤ RA := by have := HSL.out; omega
        go_wp2_with fail
        refine (HRT.out w10 0 HL10.out (by omega) (by omega)).mono ?_
        rintro e w11 ⟨rfl, hbn⟩
        have HB11 := Lib.hid (HB10.out.trans (hbn.mono HB10.out.size))
        have HV11 := Lib.hid (HV10.out.trans (hbn.mono HV10.out.size))
        have HL11 := Lib.hid (HL10.out.below hbn)
        clear hbn
        go_wp2_with fail
        refine (HBL.out w11 HL11.out).mono ?_
        rintro e w12 ⟨rfl, hbn⟩
        have HB12 := Lib.hid (HB11.out.trans (hbn.mono HB11.out.size))
        have HV12 := Lib.hid (HV11.out.trans (hbn.mono HV11.out.size))
        have HL12 := Lib.hid (HL11.out.below hbn)
        clear hbn
        have hm1 : WA.tmod 8 = 0 := by rw [Int.tmod_eq_emod_of_nonneg (by omega)]; exact z4
        have hm2 : LG.tmod 8 = 0 := by rw [Int.tmod_eq_emod_of_nonneg (by omega)]; exact z5
        have hm3 : BK.tmod 8 = 0 := by rw [Int.tmod_eq_emod_of_nonneg (by omega)]; exact z6
        have hls : IntKind.i64.wrap ((N : Int) - 1) = (N : Int) - 1 := Go.IntWalk.i64_in _ (by omega)
        have ar : IntKind.i64.wrap ((ro : Int) - 1) = (ro : Int) - 1 := Go.IntWalk.i64_in _ (by omega)
        have aw : IntKind.i64.wrap ((we : Int) - 1) = (we : Int) - 1 := Go.IntWalk.i64_in _ (by omega)
        obtain ⟨RT, HR1, hrt⟩ : ∃ RT : Int, Hid (∀ W : World, LAt W ga Aa ka ⟨ks, b0, b1, b2, b3, ro, we, lg⟩ → Calls Try.prog 25 #[.pointer (some ⟨ga, 0, none⟩), .int .i64 ((ro : Int) - 1)] W (IntPost RT W)) ∧ RT < BA := ⟨RA + ((ro : Int) - 1), Lib.hid (fun W h => HRT.out W ((ro : Int) - 1) h (by omega) (by omega)), by omega⟩
        obtain ⟨WK, HW1, hwk⟩ : ∃ WK : Int, Hid (∀ W : World, LAt W ga Aa ka ⟨ks, b0, b1, b2, b3, ro, we, lg⟩ → Calls Try.prog 26 #[.pointer (some ⟨ga, 0, none⟩), .int .i64 ((we : Int) - 1)] W (IntPost WK W)) ∧ WK < BA := by
          by_cases hwe0 : (we : Int) = 0
          · exact ⟨-1, Lib.hid (fun W h => Sl.weak_none ga ((we : Int) - 1) W (by omega)), by omega⟩
          · exact ⟨RA + ro + ((we : Int) - 1), Lib.hid (fun W h => HWK.out W ((we : Int) - 1) h (by omega) (by omega)), by omega⟩
        obtain ⟨Z0, HZ0, hz0⟩ : ∃ Z0 : Int, Hid (∀ W : World, LAt W ga Aa ka ⟨ks, b0, b1, b2, b3, ro, we, lg⟩ → Calls Try.prog 24 #[.pointer (some ⟨ga, 0, none⟩), .int .i64 (0)] W (IntPost Z0 W)) ∧ BA ≤ Z0 := ⟨_, Lib.hid (fun W h => HBI.out W 0 h (by omega) (by omega)), by omega⟩
        obtain ⟨ZN, HZN, hzn⟩ : ∃ ZN : Int, Hid (∀ W : World, LAt W ga Aa ka ⟨ks, b0, b1, b2, b3, ro, we, lg⟩ → Calls Try.prog 24 #[.pointer (some ⟨ga, 0, none⟩), .int .i64 ((N : Int) - 1)] W (IntPost ZN W)) ∧ ZN < LG := ⟨_, Lib.hid (fun W h => HBI.out W ((N : Int) - 1) h (by omega) (by omega)), by omega⟩
        obtain ⟨LT, HLG1, hlt1, hlt2⟩ : ∃ LT : Int, Hid (∀ W : World, LAt W ga Aa ka ⟨ks, b0, b1, b2, b3, ro, we, lg⟩ → Calls Try.prog 20 #[.pointer (some ⟨ga, 0, none⟩)] W (Sl.TwoPost LG LT W)) ∧ LG < LT ∧ LT ≤ BK := ⟨LG + (lg : Int), Lib.hid (fun W h => HLG.out W h), by omega, by omega⟩
        obtain ⟨A0, HA0, ha0, hm4⟩ : ∃ A0 : Int, Hid (∀ W : World, LAt W ga Aa ka ⟨ks, b0, b1, b2, b3, ro, we, lg⟩ → Calls Try.prog 13 #[.pointer (some ⟨ga, 0, none⟩), .int .i64 (0)] W (IntPost A0 W)) ∧ LT ≤ A0 ∧ A0.tmod 8 = 0 := ⟨_, Lib.hid (fun W h => HAT.out W 0 h), by rw [hat0]; exact hlt2, by rw [hat0]; exact hm3⟩
        obtain ⟨AN, SN, HAN, HSN, han, hsn, hans⟩ : ∃ AN SN : Int, Hid (∀ W : World, LAt W ga Aa ka ⟨ks, b0, b1, b2, b3, ro, we, lg⟩ → Calls Try.prog 13 #[.pointer (some ⟨ga, 0, none⟩), .int .i64 ((N : Int) - 1)] W (IntPost AN W)) ∧ Hid (∀ W : World, LAt W ga Aa ka ⟨ks, b0, b1, b2, b3, ro, we, lg⟩ → Calls Try.prog 22 #[.pointer (some ⟨ga, 0, none⟩), .int .i64 ((N : Int) - 1)] W (IntPost SN W)) ∧ 0 ≤ AN ∧ 0 ≤ SN ∧ AN + SN ≤ WA := ⟨_, _, Lib.hid (fun W h => HAT.out W ((N : Int) - 1) h), Lib.hid (fun W h => HSZ.out W ((N : Int) - 1) h (by omega) (by omega)), by rw [hat0] at hap0; omega, hs3, hen⟩
        have hadd : IntKind.i64.wrap (AN + SN) = AN + SN := Go.IntWalk.i64_in _ (by omega)
        have HEN := Lib.hid hen
        have HS3 := Lib.hid hs3
        have HT0 := Lib.hid hat0
        have hbk : 0 ≤ BK := hbd.1
        clear hm3 hlt2 z1 z2 z3 z4 z5 z6 z7 z8 z9 hen hap0 hs3 hat0 hFb hbd hSR
        go_wp2
        go_region
        all_goals
          have HB12d := Lib.hid HB12.out.drew
          have HV12d := Lib.hid HV12.out.drew
          have HL12d : Hid (LAt w12.drew ga Aa ka ⟨ks, b0, b1, b2, b3, ro, we, lg⟩) := Lib.hid HL12.out
          by_cases hgt : db < da
          · obtain ⟨AL, AH, SL, CL, CH, HAL, HAH, HSL1, HCL1, HCH, hq1, hq2, hq3, hq4, hq5, hq6⟩ : ∃ AL AH SL CL CH : Int, Hid (∀ W : World, LAt W ga Aa ka ⟨ks, b0, b1, b2, b3, ro, we, lg⟩ → Calls Try.prog 13 #[.pointer (some ⟨ga, 0, none⟩), .int .i64 (db : Int)] W (IntPost AL W)) ∧ Hid (∀ W : World, LAt W ga Aa ka ⟨ks, b0, b1, b2, b3, ro, we, lg⟩ → Calls Try.prog 13 #[.pointer (some ⟨ga, 0, none⟩), .int .i64 (da : Int)] W (IntPost AH W)) ∧ Hid (∀ W : World, LAt W ga Aa ka ⟨ks, b0, b1, b2, b3, ro, we, lg⟩ → Calls Try.prog 22 #[.pointer (some ⟨ga, 0, none⟩), .int .i64 (db : Int)] W (IntPost SL W)) ∧ Hid (∀ W : World, LAt W ga Aa ka ⟨ks, b0, b1, b2, b3, ro, we, lg⟩ → Calls Try.prog 23 #[.pointer (some ⟨ga, 0, none⟩), .int .i64 (db : Int)] W (IntPost CL W)) ∧ Hid (∀ W : World, LAt W ga Aa ka ⟨ks, b0, b1, b2, b3, ro, we, lg⟩ → Calls Try.prog 23 #[.pointer (some ⟨ga, 0, none⟩), .int .i64 (da : Int)] W (IntPost CH W)) ∧ AL ≤ AH ∧ (db < da → AL + SL ≤ AH) ∧ CL ≤ CH ∧ 0 ≤ AL ∧ AH ≤ 65536 ∧ 0 ≤ SL := by
              obtain ⟨q1, q2, q3⟩ := HAP.out (db : Int) (da : Int) (by omega) (by omega) (by omega)
              refine ⟨_, _, _, _, _, Lib.hid (fun W h => HAT.out W (db : Int) h), Lib.hid (fun W h => HAT.out W (da : Int) h), Lib.hid (fun W h => HSZ.out W (db : Int) h (by omega) (by omega)), Lib.hid (fun W h => HCL.out W (db : Int) h), Lib.hid (fun W h => HCL.out W (da : Int) h), q1, fun h => q2 (by omega), q3, ?_, ?_, ?_⟩
              · have q4 := (HAP.out 0 (db : Int) (by omega) (by omega) (by omega)).1
                rw [HT0.out] at q4
                omega
              · have q5 := (HAP.out (da : Int) ((N : Int) - 1) (by omega) (by omega) (by omega)).1
                have := HEN.out
                have := HS3.out
                omega
              · rcases Ge.at_cases HA.out (show 0 ≤ (db : Int) by omega) (by rw [hcn]; omega) with h | h | h | h
                all_goals omega
            go_wp2_with fail
            refine (HLG1.out w12.drew HL12d.out).mono ?_
            rintro e w13 ⟨rfl, hbn⟩
            have HB13 := Lib.hid (HB12d.out.trans (hbn.mono HB12d.out.size))
            have HV13 := Lib.hid (HV12d.out.trans (hbn.mono HV12d.out.size))
            have HL13 := Lib.hid (HL12d.out.below hbn)
            clear hbn
            have HB13d := Lib.hid HB13.out.drew
            have HV13d := Lib.hid HV13.out.drew
            have HL13d : Hid (LAt w13.drew ga Aa ka ⟨ks, b0, b1, b2, b3, ro, we, lg⟩) := Lib.hid HL13.out
            have hcl := cells8 (blk_below HX3.out HV13d.out)
            have p5 : w13.drew.cell? ⟨w.heap.size, 5, none⟩ = some (.int .i64 (ro : Int)) := hcl.2.2.2.2.2.1
            have p6 : w13.drew.cell? ⟨w.heap.size, 6, none⟩ = some (.int .i64 (we : Int)) := hcl.2.2.2.2.2.2.1
            clear hcl
            go_wp2
            first | (go_region_held3 (fun w' => w'.cell? ⟨w.heap.size, 5, none⟩ = some (.int .i64 (ro : Int)) ∧ w'.cell? ⟨w.heap.size, 6, none⟩ = some (.int .i64 (we : Int))) (refine ⟨?_, ?_⟩ <;> assumption) (first | (go_at_call 25; go_must (refine (HR1.out w13.drew HL13d.out).mono ?_; rintro e w14 ⟨rfl, hb14⟩; have s5 := cell_old p5 hb14.block; have s6 := cell_old p6 hb14.block)) | (go_at_call 26; go_must (refine (HW1.out w14 (HL13d.out.below hb14)).mono ?_; rintro e w15 ⟨rfl, hb15⟩; have r5 := cell_old s5 hb15.block; have r6 := cell_old s6 hb15.block)) | fail)) | fail
            all_goals
              obtain ⟨MX, hMX⟩ : ∃ MX : Int, (if RT < WK then WK else RT) = MX := ⟨_, rfl⟩
              have hmx : MX < Z0 := by
                rw [← hMX]
                split <;> omega
              rw [hMX]
              have HB14 := Lib.hid (HB13d.out.trans (hb14.mono HB13d.out.size))
              have HB15 := Lib.hid (HB14.out.trans (hb15.mono HB14.out.size))
              have HV14 := Lib.hid (HV13d.out.trans (hb14.mono HV13d.out.size))
              have HV15 := Lib.hid (HV14.out.trans (hb15.mono HV14.out.size))
              have HL15 := Lib.hid ((HL13d.out.below hb14).below hb15)
              clear hMX hrt hwk hz0 hb14 hb15 p5 p6 s5 s6 r5 r6
              go_wp2_with fail
              refine (HZ0.out w15 HL15.out).mono ?_
              rintro e w16 ⟨rfl, hbn⟩
              have HB16 := Lib.hid (HB15.out.trans (hbn.mono HB15.out.size))
              have HV16 := Lib.hid (HV15.out.trans (hbn.mono HV15.out.size))
              have HL16 := Lib.hid (HL15.out.below hbn)
              clear hbn
              go_wp2_with fail
              refine (HZN.out w16 HL16.out).mono ?_
              rintro e w17 ⟨rfl, hbn⟩
              have HB17 := Lib.hid (HB16.out.trans (hbn.mono HB16.out.size))
              have HV17 := Lib.hid (HV16.out.trans (hbn.mono HV16.out.size))
              have HL17 := Lib.hid (HL16.out.below hbn)
              clear hbn
              go_wp2_with fail
              refine (HA0.out w17 HL17.out).mono ?_
              rintro e w18 ⟨rfl, hbn⟩
              have HB18 := Lib.hid (HB17.out.trans (hbn.mono HB17.out.size))
              have HV18 := Lib.hid (HV17.out.trans (hbn.mono HV17.out.size))
              have HL18 := Lib.hid (HL17.out.below hbn)
              clear hbn
              go_wp2_with fail
              refine (HAN.out w18 HL18.out).mono ?_
              rintro e w19 ⟨rfl, hbn⟩
              have HB19 := Lib.hid (HB18.out.trans (hbn.mono HB18.out.size))
              have HV19 := Lib.hid (HV18.out.trans (hbn.mono HV18.out.size))
              have HL19 := Lib.hid (HL18.out.below hbn)
              clear hbn
              go_wp2_with fail
              refine (HSN.out w19 HL19.out).mono ?_
              rintro e w20 ⟨rfl, hbn⟩
              have HB20 := Lib.hid (HB19.out.trans (hbn.mono HB19.out.size))
              have HV20 := Lib.hid (HV19.out.trans (hbn.mono HV19.out.size))
              have HL20 := Lib.hid (HL19.out.below hbn)
              clear hbn
              go_wp2_with fail
              refine (HWO.out w20 HL20.out).mono ?_
              rintro e w20 ⟨rfl, rfl⟩
              go_wp2_with fail
              refine (HAL.out w20 HL20.out).mono ?_
              rintro e w21 ⟨rfl, hbn⟩
              have HB21 := Lib.hid (HB20.out.trans (hbn.mono HB20.out.size))
              have HV21 := Lib.hid (HV20.out.trans (hbn.mono HV20.out.size))
              have HL21 := Lib.hid (HL20.out.below hbn)
              clear hbn
              go_wp2_with fail
              refine (HAH.out w21 HL21.out).mono ?_
              rintro e w22 ⟨rfl, hbn⟩
              have HB22 := Lib.hid (HB21.out.trans (hbn.mono HB21.out.size))
              have HV22 := Lib.hid (HV21.out.trans (hbn.mono HV21.out.size))
              have HL22 := Lib.hid (HL21.out.below hbn)
              clear hbn
              by_cases hlt : db < da
              · have q6 := hq2 hlt
                have q7 : IntKind.i64.wrap (AL + SL) = AL + SL := Go.IntWalk.i64_in _ (by omega)
                clear hq2
                go_wp2_with fail
                refine (HAL.out w22 HL22.out).mono ?_
                rintro e w23 ⟨rfl, hbn⟩
                have HB23 := Lib.hid (HB22.out.trans (hbn.mono HB22.out.size))
                have HV23 := Lib.hid (HV22.out.trans (hbn.mono HV22.out.size))
                have HL23 := Lib.hid (HL22.out.below hbn)
                clear hbn
                go_wp2_with fail
                refine (HSL1.out w23 HL23.out).mono ?_
                rintro e w24 ⟨rfl, hbn⟩
                have HB24 := Lib.hid (HB23.out.trans (hbn.mono HB23.out.size))
                have HV24 := Lib.hid (HV23.out.trans (hbn.mono HV23.out.size))
                have HL24 := Lib.hid (HL23.out.below hbn)
                clear hbn
                go_wp2_with fail
                refine (HAH.out w24 HL24.out).mono ?_
                rintro e w25 ⟨rfl, hbn⟩
                have HB25 := Lib.hid (HB24.out.trans (hbn.mono HB24.out.size))
                have HV25 := Lib.hid (HV24.out.trans (hbn.mono HV24.out.size))
                have HL25 := Lib.hid (HL24.out.below hbn)
                clear hbn
                go_wp2_with fail
                refine (HCL1.out w25 HL25.out).mono ?_
                rintro e w26 ⟨rfl, hbn⟩
                have HB26 := Lib.hid (HB25.out.trans (hbn.mono HB25.out.size))
                have HV26 := Lib.hid (HV25.out.trans (hbn.mono HV25.out.size))
                have HL26 := Lib.hid (HL25.out.below hbn)
                clear hbn
                go_wp2_with fail
                refine (HCH.out w26 HL26.out).mono ?_
                rintro e w27 ⟨rfl, hbn⟩
                have HB27 := Lib.hid (HB26.out.trans (hbn.mono HB26.out.size))
                have HV27 := Lib.hid (HV26.out.trans (hbn.mono HV26.out.size))
                have HL27 := Lib.hid (HL26.out.below hbn)
                clear hbn
                go_wp2_with fail
                refine (HWO.out w27 HL27.out).mono ?_
                rintro e wz ⟨rfl, rfl⟩
                go_wp2_with fail
                refine (HA0.out w27 HL27.out).mono ?_
                rintro e w28 ⟨rfl, hbn⟩
                have HB28 := Lib.hid (HB27.out.trans (hbn.mono HB27.out.size))
                have HV28 := Lib.hid (HV27.out.trans (hbn.mono HV27.out.size))
                have HL28 := Lib.hid (HL27.out.below hbn)
                clear hbn
                go_wp2_with fail
                refine (Aw.awake_any _).mono ?_
                rintro e wq ⟨rfl, hbq⟩
                have HBQ := Lib.hid (HB28.out.trans (hbq.mono HB28.out.size))
                clear hbq
                go_wp2
                go_ret
                exact ⟨rfl, HBQ.out⟩
              · exact absurd hgt hlt
          · obtain ⟨AL, AH, SL, CL, CH, HAL, HAH, HSL1, HCL1, HCH, hq1, hq2, hq3, hq4, hq5, hq6⟩ : ∃ AL AH SL CL CH : Int, Hid (∀ W : World, LAt W ga Aa ka ⟨ks, b0, b1, b2, b3, ro, we, lg⟩ → Calls Try.prog 13 #[.pointer (some ⟨ga, 0, none⟩), .int .i64 (da : Int)] W (IntPost AL W)) ∧ Hid (∀ W : World, LAt W ga Aa ka ⟨ks, b0, b1, b2, b3, ro, we, lg⟩ → Calls Try.prog 13 #[.pointer (some ⟨ga, 0, none⟩), .int .i64 (db : Int)] W (IntPost AH W)) ∧ Hid (∀ W : World, LAt W ga Aa ka ⟨ks, b0, b1, b2, b3, ro, we, lg⟩ → Calls Try.prog 22 #[.pointer (some ⟨ga, 0, none⟩), .int .i64 (da : Int)] W (IntPost SL W)) ∧ Hid (∀ W : World, LAt W ga Aa ka ⟨ks, b0, b1, b2, b3, ro, we, lg⟩ → Calls Try.prog 23 #[.pointer (some ⟨ga, 0, none⟩), .int .i64 (da : Int)] W (IntPost CL W)) ∧ Hid (∀ W : World, LAt W ga Aa ka ⟨ks, b0, b1, b2, b3, ro, we, lg⟩ → Calls Try.prog 23 #[.pointer (some ⟨ga, 0, none⟩), .int .i64 (db : Int)] W (IntPost CH W)) ∧ AL ≤ AH ∧ (da < db → AL + SL ≤ AH) ∧ CL ≤ CH ∧ 0 ≤ AL ∧ AH ≤ 65536 ∧ 0 ≤ SL := by
              obtain ⟨q1, q2, q3⟩ := HAP.out (da : Int) (db : Int) (by omega) (by omega) (by omega)
              refine ⟨_, _, _, _, _, Lib.hid (fun W h => HAT.out W (da : Int) h), Lib.hid (fun W h => HAT.out W (db : Int) h), Lib.hid (fun W h => HSZ.out W (da : Int) h (by omega) (by omega)), Lib.hid (fun W h => HCL.out W (da : Int) h), Lib.hid (fun W h => HCL.out W (db : Int) h), q1, fun h => q2 (by omega), q3, ?_, ?_, ?_⟩
              · have q4 := (HAP.out 0 (da : Int) (by omega) (by omega) (by omega)).1
                rw [HT0.out] at q4
                omega
              · have q5 := (HAP.out (db : Int) ((N : Int) - 1) (by omega) (by omega) (by omega)).1
                have := HEN.out
                have := HS3.out
                omega
              · rcases Ge.at_cases HA.out (show 0 ≤ (da : Int) by omega) (by rw [hcn]; omega) with h | h | h | h
                all_goals omega
            go_wp2_with fail
            refine (HLG1.out w12.drew HL12d.out).mono ?_
            rintro e w13 ⟨rfl, hbn⟩
            have HB13 := Lib.hid (HB12d.out.trans (hbn.mono HB12d.out.size))
            have HV13 := Lib.hid (HV12d.out.trans (hbn.mono HV12d.out.size))
            have HL13 := Lib.hid (HL12d.out.below hbn)
            clear hbn
            have HB13d := Lib.hid HB13.out.drew
            have HV13d := Lib.hid HV13.out.drew
            have HL13d : Hid (LAt w13.drew ga Aa ka ⟨ks, b0, b1, b2, b3, ro, we, lg⟩) := Lib.hid HL13.out
            have hcl := cells8 (blk_below HX3.out HV13d.out)
            have p5 : w13.drew.cell? ⟨w.heap.size, 5, none⟩ = some (.int .i64 (ro : Int)) := hcl.2.2.2.2.2.1
            have p6 : w13.drew.cell? ⟨w.heap.size, 6, none⟩ = some (.int .i64 (we : Int)) := hcl.2.2.2.2.2.2.1
            clear hcl
            go_wp2
            first | (go_region_held3 (fun w' => w'.cell? ⟨w.heap.size, 5, none⟩ = some (.int .i64 (ro : Int)) ∧ w'.cell? ⟨w.heap.size, 6, none⟩ = some (.int .i64 (we : Int))) (refine ⟨?_, ?_⟩ <;> assumption) (first | (go_at_call 25; go_must (refine (HR1.out w13.drew HL13d.out).mono ?_; rintro e w14 ⟨rfl, hb14⟩; have s5 := cell_old p5 hb14.block; have s6 := cell_old p6 hb14.block)) | (go_at_call 26; go_must (refine (HW1.out w14 (HL13d.out.below hb14)).mono ?_; rintro e w15 ⟨rfl, hb15⟩; have r5 := cell_old s5 hb15.block; have r6 := cell_old s6 hb15.block)) | fail)) | fail
            all_goals
              obtain ⟨MX, hMX⟩ : ∃ MX : Int, (if RT < WK then WK else RT) = MX := ⟨_, rfl⟩
              have hmx : MX < Z0 := by
                rw [← hMX]
                split <;> omega
              rw [hMX]
              have HB14 := Lib.hid (HB13d.out.trans (hb14.mono HB13d.out.size))
              have HB15 := Lib.hid (HB14.out.trans (hb15.mono HB14.out.size))
              have HV14 := Lib.hid (HV13d.out.trans (hb14.mono HV13d.out.size))
              have HV15 := Lib.hid (HV14.out.trans (hb15.mono HV14.out.size))
              have HL15 := Lib.hid ((HL13d.out.below hb14).below hb15)
              clear hMX hrt hwk hz0 hb14 hb15 p5 p6 s5 s6 r5 r6
              go_wp2_with fail
              refine (HZ0.out w15 HL15.out).mono ?_
              rintro e w16 ⟨rfl, hbn⟩
              have HB16 := Lib.hid (HB15.out.trans (hbn.mono HB15.out.size))
              have HV16 := Lib.hid (HV15.out.trans (hbn.mono HV15.out.size))
              have HL16 := Lib.hid (HL15.out.below hbn)
              clear hbn
              go_wp2_with fail
              refine (HZN.out w16 HL16.out).mono ?_
              rintro e w17 ⟨rfl, hbn⟩
              have HB17 := Lib.hid (HB16.out.trans (hbn.mono HB16.out.size))
              have HV17 := Lib.hid (HV16.out.trans (hbn.mono HV16.out.size))
              have HL17 := Lib.hid (HL16.out.below hbn)
              clear hbn
              go_wp2_with fail
              refine (HA0.out w17 HL17.out).mono ?_
              rintro e w18 ⟨rfl, hbn⟩
              have HB18 := Lib.hid (HB17.out.trans (hbn.mono HB17.out.size))
              have HV18 := Lib.hid (HV17.out.trans (hbn.mono HV17.out.size))
              have HL18 := Lib.hid (HL17.out.below hbn)
              clear hbn
              go_wp2_with fail
              refine (HAN.out w18 HL18.out).mono ?_
              rintro e w19 ⟨rfl, hbn⟩
              have HB19 := Lib.hid (HB18.out.trans (hbn.mono HB18.out.size))
              have HV19 := Lib.hid (HV18.out.trans (hbn.mono HV18.out.size))
              have HL19 := Lib.hid (HL18.out.below hbn)
              clear hbn
              go_wp2_with fail
              refine (HSN.out w19 HL19.out).mono ?_
              rintro e w20 ⟨rfl, hbn⟩
              have HB20 := Lib.hid (HB19.out.trans (hbn.mono HB19.out.size))
              have HV20 := Lib.hid (HV19.out.trans (hbn.mono HV19.out.size))
              have HL20 := Lib.hid (HL19.out.below hbn)
              clear hbn
              go_wp2_with fail
              refine (HWO.out w20 HL20.out).mono ?_
              rintro e w20 ⟨rfl, rfl⟩
              go_wp2_with fail
              refine (HAL.out w20 HL20.out).mono ?_
              rintro e w21 ⟨rfl, hbn⟩
              have HB21 := Lib.hid (HB20.out.trans (hbn.mono HB20.out.size))
              have HV21 := Lib.hid (HV20.out.trans (hbn.mono HV20.out.size))
              have HL21 := Lib.hid (HL20.out.below hbn)
              clear hbn
              go_wp2_with fail
              refine (HAH.out w21 HL21.out).mono ?_
              rintro e w22 ⟨rfl, hbn⟩
              have HB22 := Lib.hid (HB21.out.trans (hbn.mono HB21.out.size))
              have HV22 := Lib.hid (HV21.out.trans (hbn.mono HV21.out.size))
              have HL22 := Lib.hid (HL21.out.below hbn)
              clear hbn
              by_cases hlt : da < db
              · have q6 := hq2 hlt
                have q7 : IntKind.i64.wrap (AL + SL) = AL + SL := Go.IntWalk.i64_in _ (by omega)
                clear hq2
                go_wp2_with fail
                refine (HAL.out w22 HL22.out).mono ?_
                rintro e w23 ⟨rfl, hbn⟩
                have HB23 := Lib.hid (HB22.out.trans (hbn.mono HB22.out.size))
                have HV23 := Lib.hid (HV22.out.trans (hbn.mono HV22.out.size))
                have HL23 := Lib.hid (HL22.out.below hbn)
                clear hbn
                go_wp2_with fail
                refine (HSL1.out w23 HL23.out).mono ?_
                rintro e w24 ⟨rfl, hbn⟩
                have HB24 := Lib.hid (HB23.out.trans (hbn.mono HB23.out.size))
                have HV24 := Lib.hid (HV23.out.trans (hbn.mono HV23.out.size))
                have HL24 := Lib.hid (HL23.out.below hbn)
                clear hbn
                go_wp2_with fail
                refine (HAH.out w24 HL24.out).mono ?_
                rintro e w25 ⟨rfl, hbn⟩
                have HB25 := Lib.hid (HB24.out.trans (hbn.mono HB24.out.size))
                have HV25 := Lib.hid (HV24.out.trans (hbn.mono HV24.out.size))
                have HL25 := Lib.hid (HL24.out.below hbn)
                clear hbn
                go_wp2_with fail
                refine (HCL1.out w25 HL25.out).mono ?_
                rintro e w26 ⟨rfl, hbn⟩
                have HB26 := Lib.hid (HB25.out.trans (hbn.mono HB25.out.size))
                have HV26 := Lib.hid (HV25.out.trans (hbn.mono HV25.out.size))
                have HL26 := Lib.hid (HL25.out.below hbn)
                clear hbn
                go_wp2_with fail
                refine (HCH.out w26 HL26.out).mono ?_
                rintro e w27 ⟨rfl, hbn⟩
                have HB27 := Lib.hid (HB26.out.trans (hbn.mono HB26.out.size))
                have HV27 := Lib.hid (HV26.out.trans (hbn.mono HV26.out.size))
                have HL27 := Lib.hid (HL26.out.below hbn)
                clear hbn
                go_wp2_with fail
                refine (HWO.out w27 HL27.out).mono ?_
                rintro e wz ⟨rfl, rfl⟩
                go_wp2_with fail
                refine (HA0.out w27 HL27.out).mono ?_
                rintro e w28 ⟨rfl, hbn⟩
                have HB28 := Lib.hid (HB27.out.trans (hbn.mono HB27.out.size))
                have HV28 := Lib.hid (HV27.out.trans (hbn.mono HV27.out.size))
                have HL28 := Lib.hid (HL27.out.below hbn)
                clear hbn
                go_wp2_with fail
                refine (Aw.awake_any _).mono ?_
                rintro e wq ⟨rfl, hbq⟩
                have HBQ := Lib.hid (HB28.out.trans (hbq.mono HB28.out.size))
                clear hbq
                go_wp2
                go_ret
                exact ⟨rfl, HBQ.out⟩
              · clear hq2
                go_wp2_with fail
                refine (HCL1.out w22 HL22.out).mono ?_
                rintro e w23 ⟨rfl, hbn⟩
                have HB23 := Lib.hid (HB22.out.trans (hbn.mono HB22.out.size))
                have HV23 := Lib.hid (HV22.out.trans (hbn.mono HV22.out.size))
                have HL23 := Lib.hid (HL22.out.below hbn)
                clear hbn
                go_wp2_with fail
                refine (HCH.out w23 HL23.out).mono ?_
                rintro e w24 ⟨rfl, hbn⟩
                have HB24 := Lib.hid (HB23.out.trans (hbn.mono HB23.out.size))
                have HV24 := Lib.hid (HV23.out.trans (hbn.mono HV23.out.size))
                have HL24 := Lib.hid (HL23.out.below hbn)
                clear hbn
                go_wp2_with fail
                refine (HWO.out w24 HL24.out).mono ?_
                rintro e wz ⟨rfl, rfl⟩
                go_wp2_with fail
                refine (HA0.out w24 HL24.out).mono ?_
                rintro e w25 ⟨rfl, hbn⟩
                have HB25 := Lib.hid (HB24.out.trans (hbn.mono HB24.out.size))
                have HV25 := Lib.hid (HV24.out.trans (hbn.mono HV24.out.size))
                have HL25 := Lib.hid (HL24.out.below hbn)
                clear hbn
                go_wp2_with fail
                refine (Aw.awake_any _).mono ?_
                rintro e wq ⟨rfl, hbq⟩
                have HBQ := Lib.hid (HB25.out.trans (hbq.mono HB25.out.size))
                clear hbq
                go_wp2
                go_ret
                exact ⟨rfl, HBQ.out⟩
      · exact absurd HBK.out.1 hno
    · exact absurd HEZ.out hne
  · have HE1 := Lib.hid he
    obtain ⟨E, hE⟩ : ∃ E, mayE ⟨ks, b0, b1, b2, b3, ro, we, lg⟩ = E := ⟨_, rfl⟩
    rw [hE] at he
    have be : (E == 0) = false := beq_eq_false_iff_ne.2 he
    have bn : (E != 0) = true := bne_iff_ne.2 he
    have HEE := Lib.hid hE
    clear hE HE
    go_enter Try.func7, Try.ntmps7
    go_wp2_with fail
    refine HLT.out.mono ?_
    rintro e w2 ⟨rfl, hb2⟩
    have HB2 := Lib.hid (HB0.out.trans (hb2.mono HB0.out.size))
    have HX2 := Lib.hid (blk_below HX0.out hb2)
    have HKS2 := Lib.hid (HKS.out.old hb2.block)
    clear hb2 p0 p1 p2 p3 p4 p5 p6 p7
    obtain ⟨p0, p1, p2, p3, p4, p5, p6, p7⟩ := cells8 HX2.out
    go_wp2_with fail
    refine (HN.out _ HKS2.out).mono ?_
    rintro e w3 ⟨hb3, ⟨hz, _⟩ | ⟨_, rfl⟩⟩
    · exact absurd hz HE1.out
    · rw [HEE.out]
      have HB3 := Lib.hid (HB2.out.trans (hb3.mono HB2.out.size))
      clear hb3
      go_wp2_with fail
      refine (Aw.awake_any _).mono ?_
      rintro e w4 ⟨rfl, hb4⟩
      have HB4 := Lib.hid (HB3.out.trans (hb4.mono HB3.out.size))
      clear hb4
      go_wp2
      go_ret
      exact ⟨rfl, HB4.out⟩

theorem own : ownKnob Try.prog.godebug = none := by kernel_rfl
theorem laidOut : laidOutB Try.prog = true := by kernel_rfl
set_option maxRecDepth 100000 in
theorem lifted (os : Os) (started : os.Started) (H : Type) (enc : TypeId × Value → H) :
    ReturnsInHanded {} Try.checked os 7 .any (Rows.layoutBackSpec.pre6 enc Try.prog Try.f7 Rows.layoutBackRow.domain false) (Rows.layoutBackSpec.post enc Try.prog Try.f7 false true false false) := by
  refine returnsInHanded_of_change (C := Try.checked) own started (by kernel_rfl) Try.func7
    (ChangeSpec.witness6 (enc := enc) (C := Try.checked) false ⟨#[], #[.agg #[.slice none 0 0, .int .i64 0, .int .i64 0, .int .i64 0, .int .i64 0, .int .i64 0, .int .i64 0, .int .i64 0], .int .i64 0, .int .i64 0], []⟩ 8 (by kernel_rfl) (by kernel_rfl) (by kernel_rfl) (by kernel_rfl)) ?_
  intro W base args ds gs before hval0 hW hcnd _
  have hval : ∀ (j : Nat) t v, Try.f7.params[j]? = some t → args[j]? = some v → Value.okWide Try.prog W .any base t v := hval0
  have hW' := hW
  obtain ⟨p, q, hA0, hV, rfl, hfz, hnd⟩ := hW
  have hA : DataW.TrodAll enc Try.prog W 0 (fun _ => true) true Try.f7.params.toList args.toList ds p := hA0
  rw [Try.params7] at hA hval
  obtain ⟨v0, vs0, d0, ds0, p0, q0, hargs, rfl, rfl, h0, r0⟩ := trodAll_cons hA
  obtain ⟨v1, vs1, d1, ds1, p1, q1, rfl, rfl, rfl, h1, r1⟩ := trodAll_cons r0
  obtain ⟨v2, vs2, d2, ds2, p2, q2, rfl, rfl, rfl, h2, r2⟩ := trodAll_cons r1
  obtain ⟨rfl, rfl, rfl⟩ := trodAll_nil r2
  obtain rfl : args = #[v0, v1, v2] := by cases args; simp_all
  obtain ⟨rfl, rfl⟩ := trodVars_none hV
  have k0 := h0
  have lt0 : ∀ x ∈ p0, x.block < W.heap.size := by obtain ⟨m, hm⟩ := k0; exact DataW.trod_lt m _ _ _ hm
  obtain ⟨fuel0, hf0⟩ := h0
  obtain ⟨x0, hk0, ok0⟩ := (Ba.opens_cf) H enc W 0 _ _ _ _ _ hf0
  have hg0 := Ba.cat_of (hval 0 25 v0 rfl rfl) hk0
  obtain ⟨a1, rfl, rfl, rfl, w1⟩ := open_int Try.underlying3 (hval 1 3 v1 rfl rfl) h1
  obtain ⟨a2, rfl, rfl, rfl, w2⟩ := open_int Try.underlying3 (hval 2 3 v2 rfl rfl) h2
  clear hA0 hval0
  refine (walk W _ x0 hg0 ok0 a1 w1 a2 w2).mono fun e W' ⟨he, bel⟩ => ?_
  subst he
  exact ⟨_, rfl, _, _, _, [], _, [], hW', trodAll_mk1 (shut_bool Try.underlying4 _), (trodAll_cons_mk (Below.trod laidOut (by kernel_rfl) (of_decide_eq_true (by kernel_rfl)) k0 bel lt0) (trodAll_cons_mk (shut_int Try.underlying3 w1) (trodAll_cons_mk (shut_int Try.underlying3 w2) trodAll_mk0))), rfl, bel.frame _, fun h => by cases h⟩
theorem over : Rows.layoutBackRow.holds Try.pinned (OpenSpec.ofChange Rows.layoutBackSpec) :=
  OpenClaim.holds_of_wide 7 Try.f7 rfl rfl rfl rfl rfl rfl rfl ⟨rfl, rfl, rfl, rfl, rfl⟩ rfl rfl rfl rfl rfl (by kernel_rfl) Try.func7 (by kernel_rfl)
    (of_decide_eq_true (by kernel_rfl)) (by unfold Func.isWrapper; first | (rw [if_pos (by decide +kernel)]; kernel_rfl) | (rw [if_neg (by decide +kernel)]; exact ⟨rfl, rfl⟩))
    (fun os started H enc _ => lifted os started H enc)
theorem proved : Rows.LayoutBackSaid := over
#print axioms proved
end Go.Proofs.Ytlmlckidgfnhdaa.layoutBack
