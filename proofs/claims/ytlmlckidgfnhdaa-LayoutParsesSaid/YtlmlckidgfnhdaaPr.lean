/- Parse, the reference's. -/
import Derived.Test.YtlmlckidgfnhdaaPa
import Derived.Test.YtlmlckidgfnhdaaMr
namespace Go.Proofs.Ytlmlckidgfnhdaa.Pr
open Go.RowKit Go.ChangeShapes Go.WideShapes Go.Proofs.YtlmlckidgfnhdaaW.PrintWords Go.Proofs.Ytlmlckidgfnhdaa.Ba Go.Proofs.Ytlmlckidgfnhdaa.Kw Go.Proofs.Ytlmlckidgfnhdaa.Kx Go.Proofs.Ytlmlckidgfnhdaa.Pc Go.Proofs.Ytlmlckidgfnhdaa.My Go.Proofs.Ytlmlckidgfnhdaa.Ow Go.Proofs.Ytlmlckidgfnhdaa.Wd Go.Proofs.Ytlmlckidgfnhdaa.Kp Go.Proofs.Ytlmlckidgfnhdaa.Pp Go.Proofs.Ytlmlckidgfnhdaa.Pa
set_option linter.unusedVariables false
set_option linter.unusedSimpArgs false
set_option maxHeartbeats 16000000 in
set_option maxRecDepth 20000 in
theorem rparse_any (A : Option Addr) (c : Nat) (ws : List Nat) (w : World) (h : WR w A ws) (hl : ws.length ≤ 200) (hlc : ws.length ≤ c) (hbd : ∀ y ∈ ws, y < 18446744073709551616) : Calls Try.prog 17 #[.slice A ws.length c] w (PPost ws w) := by
  have hz25 : ∀ w, (zeroValue 25).run Try.prog w = .ok (.agg #[.slice none 0 0, .int .i64 0, .int .i64 0, .int .i64 0, .int .i64 0, .int .i64 0, .int .i64 0, .int .i64 0]) w := fun w => by kernel_rfl
  have hz54 : ∀ w, (zeroValue 54).run Try.prog w = .ok (.agg #[.slice none 0 0]) w := fun w => by kernel_rfl
  have hz23 : ∀ w, (zeroValue 23).run Try.prog w = .ok (.agg #[.int .i64 0, .int .i64 0, .int .i64 0, .int .i64 0]) w := fun w => by kernel_rfl
  have HF : Hid (¬ Ok ws → ∀ w', Below w.heap.size w w' → PPost ws w (.returned (.tuple #[.agg #[.slice none 0 0, .int .i64 0, .int .i64 0, .int .i64 0, .int .i64 0, .int .i64 0, .int .i64 0, .int .i64 0], .int .i64 8])) w') := Lib.hid (fun h w' hb => ⟨hb, .inr ⟨h, rfl⟩⟩)
  have HOK : Hid (Ok ws → ∀ w' A k, Below w.heap.size w w' → Ks w' A (kds ws (kN ws)) → (kds ws (kN ws)).length ≤ k → PPost ws w (.returned (.tuple #[.agg #[.slice A (kds ws (kN ws)).length k, .int .i64 (num (ws.getD 4 0)), .int .i64 (num (ws.getD 5 0)), .int .i64 (num (ws.getD 6 0)), .int .i64 (num (ws.getD 7 0)), .int .i64 (num (ws.getD 1 0)), .int .i64 (num (ws.getD 2 0)), .int .i64 (num (ws.getD 3 0))], .int .i64 0])) w') :=
    Lib.hid (fun h w' A k hb hk hl => ⟨hb, .inl ⟨h, A, k, rfl, hk, hl⟩⟩)
  have HB0 := Lib.hid ((Below.refl w.heap.size w).alloc (Nat.le_refl _) (.cells #[.slice none 0 0, .int .i64 0, .int .i64 0, .int .i64 0, .int .i64 0, .int .i64 0, .int .i64 0, .int .i64 0] 25))
  have HR0 := Lib.hid (heap_alloc_new w (.cells #[.slice none 0 0, .int .i64 0, .int .i64 0, .int .i64 0, .int .i64 0, .int .i64 0, .int .i64 0, .int .i64 0] 25))
  have HW0 := Lib.hid (h.old HB0.out.block)
  have HBD := Lib.hid hbd
  obtain ⟨w0, hw0⟩ : ∃ w0, w.alloc (.cells #[.slice none 0 0, .int .i64 0, .int .i64 0, .int .i64 0, .int .i64 0, .int .i64 0, .int .i64 0, .int .i64 0] 25) = w0 := ⟨_, rfl⟩
  rw [hw0] at HB0 HR0 HW0
  clear h hbd
  have HBX : Hid (Below w.heap.size w (w0.alloc (.cells #[.slice none 0 0, .int .i64 0, .int .i64 0, .int .i64 0, .int .i64 0, .int .i64 0, .int .i64 0, .int .i64 0] 25))) := Lib.hid (HB0.out.alloc HB0.out.size _)
  have HRX : Hid ((w0.alloc (.cells #[.slice none 0 0, .int .i64 0, .int .i64 0, .int .i64 0, .int .i64 0, .int .i64 0, .int .i64 0, .int .i64 0] 25)).heap[w.heap.size]? = some (.cells #[.slice none 0 0, .int .i64 0, .int .i64 0, .int .i64 0, .int .i64 0, .int .i64 0, .int .i64 0, .int .i64 0] 25 (0, 0))) := Lib.hid (blk_alloc HR0.out _)
  have HCX : Hid ((w0.alloc (.cells #[.slice none 0 0, .int .i64 0, .int .i64 0, .int .i64 0, .int .i64 0, .int .i64 0, .int .i64 0, .int .i64 0] 25)).heap[w0.heap.size]? = some (.cells #[.slice none 0 0, .int .i64 0, .int .i64 0, .int .i64 0, .int .i64 0, .int .i64 0, .int .i64 0, .int .i64 0] 25 (0, 0))) := Lib.hid (heap_alloc_new w0 _)
  obtain ⟨p0, p1, p2, p3, p4, p5, p6, p7⟩ := cells8 HCX.out
  by_cases h9 : ws.length < 10
  · go_enter Try.func17, Try.ntmps17
    obtain ⟨wz, hwz, hxz, hgz⟩ := store8 HRX.out rfl none 0 0 0 0 0 0 0 0 0
    have HWZ := Lib.hid hwz
    have HXZ := Lib.hid hxz
    have HTH := Lib.hid (there8 HRX.out rfl)
    have HBZ := Lib.hid (HBX.out.trans (below_of_grown hgz (Nat.le_refl _) HBX.out.size))
    clear hwz hxz hgz
    go_wp2_with (refine store_named (P := Try.prog) rfl 25 (.tmp 2) (.tmp 23) rfl w.heap.size 0 #[.slice none 0 0, .int .i64 0, .int .i64 0, .int .i64 0, .int .i64 0, .int .i64 0, .int .i64 0, .int .i64 0] rfl rfl HTH.out info25 (one8 _ _ _ _ _ _ _ _ _ _) HWZ.out ?_)
    go_wp2
    (try simp only [Exit.inBlock, Exit.then])
    refine bodyPost_ret (results_ct rfl _ _ w.heap.size 25 _ (0, 0) _ rfl HXZ.out Try.underlying25 rfl info25) rfl ?_
    exact HF.out (fun o => by have h1 := o.n; have h2 := o.kn; omega) _ HBZ.out
  obtain ⟨ad, rfl, _⟩ := HW0.out 0 (by omega)
  have q0 := WR.cell HW0.out 0 (by omega)
  have q1 := WR.cellS HW0.out 1 (by omega) (by omega)
  have g1 : (1 : Int) < (ws.length : Int) := by omega
  have q2 := WR.cellS HW0.out 2 (by omega) (by omega)
  have g2 : (2 : Int) < (ws.length : Int) := by omega
  have q3 := WR.cellS HW0.out 3 (by omega) (by omega)
  have g3 : (3 : Int) < (ws.length : Int) := by omega
  have q4 := WR.cellS HW0.out 4 (by omega) (by omega)
  have g4 : (4 : Int) < (ws.length : Int) := by omega
  have q5 := WR.cellS HW0.out 5 (by omega) (by omega)
  have g5 : (5 : Int) < (ws.length : Int) := by omega
  have q6 := WR.cellS HW0.out 6 (by omega) (by omega)
  have g6 : (6 : Int) < (ws.length : Int) := by omega
  have q7 := WR.cellS HW0.out 7 (by omega) (by omega)
  have g7 : (7 : Int) < (ws.length : Int) := by omega
  have q8 := WR.cellS HW0.out 8 (by omega) (by omega)
  have g8 : (8 : Int) < (ws.length : Int) := by omega
  obtain ⟨a0, ha0⟩ : ∃ a, ws.getD 0 0 = a := ⟨_, rfl⟩
  obtain ⟨a1, ha1⟩ : ∃ a, ws.getD 1 0 = a := ⟨_, rfl⟩
  obtain ⟨a2, ha2⟩ : ∃ a, ws.getD 2 0 = a := ⟨_, rfl⟩
  obtain ⟨a3, ha3⟩ : ∃ a, ws.getD 3 0 = a := ⟨_, rfl⟩
  obtain ⟨a4, ha4⟩ : ∃ a, ws.getD 4 0 = a := ⟨_, rfl⟩
  obtain ⟨a5, ha5⟩ : ∃ a, ws.getD 5 0 = a := ⟨_, rfl⟩
  obtain ⟨a6, ha6⟩ : ∃ a, ws.getD 6 0 = a := ⟨_, rfl⟩
  obtain ⟨a7, ha7⟩ : ∃ a, ws.getD 7 0 = a := ⟨_, rfl⟩
  obtain ⟨n, ha8⟩ : ∃ a, ws.getD 8 0 = a := ⟨_, rfl⟩
  rw [ha0] at q0
  rw [ha1] at q1
  rw [ha2] at q2
  rw [ha3] at q3
  rw [ha4] at q4
  rw [ha5] at q5
  rw [ha6] at q6
  rw [ha7] at q7
  rw [ha8] at q8
  rw [add0] at q0
  rw [ha4, ha5, ha6, ha7, ha1, ha2, ha3] at HOK
  have HN : Hid (kN ws = num n) := Lib.hid (by unfold kN; rw [ha8])
  have HCF : Hid (mayE (cfW ws) = mayE ⟨kds ws (num n), num a4, num a5, num a6, num a7, num a1, num a2, num a3⟩) := Lib.hid (by unfold cfW cfN; rw [HN.out, ha1, ha2, ha3, ha4, ha5, ha6, ha7])
  have HA0 := Lib.hid ha0
  have HALL : Hid ((∀ i, i < 8 → ws.getD (1 + i) 0 ≤ 4096) → a1 ≤ 4096 ∧ a2 ≤ 4096 ∧ a3 ≤ 4096 ∧ a4 ≤ 4096 ∧ a5 ≤ 4096 ∧ a6 ≤ 4096 ∧ a7 ≤ 4096 ∧ n ≤ 4096) := Lib.hid (fun h => ⟨ha1 ▸ h 0 (by omega), ha2 ▸ h 1 (by omega), ha3 ▸ h 2 (by omega), ha4 ▸ h 3 (by omega), ha5 ▸ h 4 (by omega), ha6 ▸ h 5 (by omega), ha7 ▸ h 6 (by omega), ha8 ▸ h 7 (by omega)⟩)
  have HA8 := Lib.hid ha8
  rw [HN.out] at HOK
  clear ha0 ha1 ha2 ha3 ha4 ha5 ha6 ha7 ha8
  have HXB : Hid (∀ k, k < w0.heap.size → (w0.alloc (.cells #[.slice none 0 0, .int .i64 0, .int .i64 0, .int .i64 0, .int .i64 0, .int .i64 0, .int .i64 0, .int .i64 0] 25)).heap[k]? = w0.heap[k]?) := Lib.hid ((Below.refl _ _).alloc (Nat.le_refl _) _).block
  have u0 : (w0.alloc (.cells #[.slice none 0 0, .int .i64 0, .int .i64 0, .int .i64 0, .int .i64 0, .int .i64 0, .int .i64 0, .int .i64 0] 25)).cell? ad = some (.int .u64 (a0 : Int)) := cell_old q0 HXB.out
  by_cases hs : a0 = 8317131967827831151
  · subst hs
    have u0 : (w0.alloc (.cells #[.slice none 0 0, .int .i64 0, .int .i64 0, .int .i64 0, .int .i64 0, .int .i64 0, .int .i64 0, .int .i64 0] 25)).cell? ad = some (.int .u64 8317131967827831151) := u0
    obtain ⟨B, cB, hslB, hrdB⟩ := mid (A := some ad) (c := c) (ws := ws) 1 8 (by omega) hlc (by omega)
    have hslB : ∀ W : World, (Instr.slice 37 (.slice (some ad) ws.length c) (some (.int .i64 1)) (some (.int .i64 9)) none).run Try.prog W = .ok (.slice B 8 cB) W := hslB
    have HSB := Lib.hid (hrdB w0 HW0.out)
    clear hrdB
    go_enter Try.func17, Try.ntmps17
    go_wp2
    go_loop [27] (fun i => ∃ j : Nat, j ≤ 8 ∧ i = .int .i64 (j : Int) ∧ ∀ t, t < j → ws.getD (1 + t) 0 ≤ 4096) (fun i => 8 - (intOf i).toNat)
    case atStart => exact ⟨0, by omega, rfl, fun t ht => by omega⟩
    case round =>
      obtain ⟨j, hj, rfl, hal⟩ := hrel
      have HAL := Lib.hid hal
      clear hal
      by_cases hlt : j < 8
      · obtain ⟨adB, rfl, hq0⟩ := HSB.out j hlt
        have hq := cell_old hq0 HXB.out
        have HBIG : Hid (4096 < ws.getD (1 + j) 0 → ¬ Ok ws) := Lib.hid (fun h o => by have := o.small (1 + j) (by omega) (by omega); omega)
        have HNX : Hid (ws.getD (1 + j) 0 ≤ 4096 → ∀ t, t < j + 1 → ws.getD (1 + t) 0 ≤ 4096) := Lib.hid (fun h t ht => by rcases Nat.lt_or_ge t j with h1 | h1; exact HAL.out t h1; rw [show t = j by omega]; exact h)
        obtain ⟨y, hy⟩ : ∃ y, ws.getD (1 + j) 0 = y := ⟨_, rfl⟩
        rw [hy] at hq HBIG HNX
        clear hy hq0
        by_cases hb4 : 4096 < y
        · have HNO := Lib.hid (HBIG.out hb4)
          obtain ⟨wz, hwz, hxz, hgz⟩ := store8 HRX.out rfl none 0 0 0 0 0 0 0 0 0
          have HWZ := Lib.hid hwz
          have HXZ := Lib.hid hxz
          have HTH := Lib.hid (there8 HRX.out rfl)
          have HBZ := Lib.hid (HBX.out.trans (below_of_grown hgz (Nat.le_refl _) HBX.out.size))
          clear hwz hxz hgz
          go_wp2_with (refine store_named (P := Try.prog) rfl 25 (.tmp 2) (.tmp 33) rfl w.heap.size 0 #[.slice none 0 0, .int .i64 0, .int .i64 0, .int .i64 0, .int .i64 0, .int .i64 0, .int .i64 0, .int .i64 0] rfl rfl HTH.out info25 (one8 _ _ _ _ _ _ _ _ _ _) HWZ.out ?_)
          go_wp2
          (try simp only [Exit.inBlock, Exit.then])
          refine bodyPost_ret (results_ct rfl _ _ w.heap.size 25 _ (0, 0) _ rfl HXZ.out Try.underlying25 rfl info25) rfl ?_
          exact HF.out (HNO.out) _ HBZ.out
        · have HNN := Lib.hid (HNX.out (by omega))
          go_wp2
          go_round
          case rel => exact ⟨j + 1, by omega, by go_num, HNN.out⟩
          case measure => simp [intOf]; omega
      · obtain rfl : j = 8 := by omega
        obtain ⟨l1, l2, l3, l4, l5, l6, l7, l8⟩ := HALL.out HAL.out
        rw [num_id l1, num_id l2, num_id l3, num_id l4, num_id l5, num_id l6, num_id l7, num_id l8] at HOK HCF
        rw [num_id l8] at HN
        have v1 : ∀ o, (w0.alloc o).cell? ⟨ad.block, ad.off + 1, none⟩ = some (.int .u64 (a1 : Int)) := fun o => cell_old q1 ((Below.refl _ _).alloc (Nat.le_refl _) o).block
        have y1 : IntKind.i64.wrap (a1 : Int) = (a1 : Int) := Go.IntWalk.i64_in _ (by omega)
        have v2 : ∀ o, (w0.alloc o).cell? ⟨ad.block, ad.off + 2, none⟩ = some (.int .u64 (a2 : Int)) := fun o => cell_old q2 ((Below.refl _ _).alloc (Nat.le_refl _) o).block
        have y2 : IntKind.i64.wrap (a2 : Int) = (a2 : Int) := Go.IntWalk.i64_in _ (by omega)
        have v3 : ∀ o, (w0.alloc o).cell? ⟨ad.block, ad.off + 3, none⟩ = some (.int .u64 (a3 : Int)) := fun o => cell_old q3 ((Below.refl _ _).alloc (Nat.le_refl _) o).block
        have y3 : IntKind.i64.wrap (a3 : Int) = (a3 : Int) := Go.IntWalk.i64_in _ (by omega)
        have v4 : ∀ o, (w0.alloc o).cell? ⟨ad.block, ad.off + 4, none⟩ = some (.int .u64 (a4 : Int)) := fun o => cell_old q4 ((Below.refl _ _).alloc (Nat.le_refl _) o).block
        have y4 : IntKind.i64.wrap (a4 : Int) = (a4 : Int) := Go.IntWalk.i64_in _ (by omega)
        have v5 : ∀ o, (w0.alloc o).cell? ⟨ad.block, ad.off + 5, none⟩ = some (.int .u64 (a5 : Int)) := fun o => cell_old q5 ((Below.refl _ _).alloc (Nat.le_refl _) o).block
        have y5 : IntKind.i64.wrap (a5 : Int) = (a5 : Int) := Go.IntWalk.i64_in _ (by omega)
        have v6 : ∀ o, (w0.alloc o).cell? ⟨ad.block, ad.off + 6, none⟩ = some (.int .u64 (a6 : Int)) := fun o => cell_old q6 ((Below.refl _ _).alloc (Nat.le_refl _) o).block
        have y6 : IntKind.i64.wrap (a6 : Int) = (a6 : Int) := Go.IntWalk.i64_in _ (by omega)
        have v7 : ∀ o, (w0.alloc o).cell? ⟨ad.block, ad.off + 7, none⟩ = some (.int .u64 (a7 : Int)) := fun o => cell_old q7 ((Below.refl _ _).alloc (Nat.le_refl _) o).block
        have y7 : IntKind.i64.wrap (a7 : Int) = (a7 : Int) := Go.IntWalk.i64_in _ (by omega)
        have v8 : ∀ o, (w0.alloc o).cell? ⟨ad.block, ad.off + 8, none⟩ = some (.int .u64 (n : Int)) := fun o => cell_old q8 ((Below.refl _ _).alloc (Nat.le_refl _) o).block
        have y8 : IntKind.i64.wrap (n : Int) = (n : Int) := Go.IntWalk.i64_in _ (by omega)
        have HQ4 := Lib.hid q4
        have HQ5 := Lib.hid q5
        have HQ6 := Lib.hid q6
        have HQ7 := Lib.hid q7
        clear q1 q2 q3 q4 q5 q6 q7 q8
        by_cases h16 : 16 < n
        · have HNO : Hid (¬ Ok ws) := Lib.hid (fun o => by have := o.w8; rw [HA8.out] at this; omega)
          obtain ⟨wz, hwz, hxz, hgz⟩ := store8 HRX.out rfl none 0 0 0 0 0 0 0 0 0
          have HWZ := Lib.hid hwz
          have HXZ := Lib.hid hxz
          have HTH := Lib.hid (there8 HRX.out rfl)
          have HBZ := Lib.hid (HBX.out.trans (below_of_grown hgz (Nat.le_refl _) HBX.out.size))
          clear hwz hxz hgz
          go_wp2_with (refine store_named (P := Try.prog) rfl 25 (.tmp 2) (.tmp 48) rfl w.heap.size 0 #[.slice none 0 0, .int .i64 0, .int .i64 0, .int .i64 0, .int .i64 0, .int .i64 0, .int .i64 0, .int .i64 0] rfl rfl HTH.out info25 (one8 _ _ _ _ _ _ _ _ _ _) HWZ.out ?_)
          go_wp2
          (try simp only [Exit.inBlock, Exit.then])
          refine bodyPost_ret (results_ct rfl _ _ w.heap.size 25 _ (0, 0) _ rfl HXZ.out Try.underlying25 rfl info25) rfl ?_
          exact HF.out (HNO.out) _ HBZ.out
        by_cases hgt : ws.length < 9 + n
        · have HNO : Hid (¬ Ok ws) := Lib.hid (fun o => by have := o.n; rw [HN.out] at this; omega)
          have d1 : decide ((ws.length : Int) < 9 + (n : Int)) = true := decide_eq_true (by omega)
          obtain ⟨wz, hwz, hxz, hgz⟩ := store8 HRX.out rfl none 0 0 0 0 0 0 0 0 0
          have HWZ := Lib.hid hwz
          have HXZ := Lib.hid hxz
          have HTH := Lib.hid (there8 HRX.out rfl)
          have HBZ := Lib.hid (HBX.out.trans (below_of_grown hgz (Nat.le_refl _) HBX.out.size))
          clear hwz hxz hgz
          go_wp2_with (refine store_named (P := Try.prog) rfl 25 (.tmp 2) (.tmp 48) rfl w.heap.size 0 #[.slice none 0 0, .int .i64 0, .int .i64 0, .int .i64 0, .int .i64 0, .int .i64 0, .int .i64 0, .int .i64 0] rfl rfl HTH.out info25 (one8 _ _ _ _ _ _ _ _ _ _) HWZ.out ?_)
          go_wp2
          (try simp only [Exit.inBlock, Exit.then])
          refine bodyPost_ret (results_ct rfl _ _ w.heap.size 25 _ (0, 0) _ rfl HXZ.out Try.underlying25 rfl info25) rfl ?_
          exact HF.out (HNO.out) _ HBZ.out
        have d1 : decide ((ws.length : Int) < 9 + (n : Int)) = false := decide_eq_false (by omega)
        have f5 := blk_frozen HCX.out 5
        have f6 := blk_frozen HCX.out 6
        have f7 := blk_frozen HCX.out 7
        go_wp2
        go_region
        all_goals
          have HB3 : Hid (Below w0.heap.size w0 (w0.alloc (.cells #[.slice none 0 0, .int .i64 0, .int .i64 0, .int .i64 0, .int .i64 0, .int .i64 (a1 : Int), .int .i64 (a2 : Int), .int .i64 (a3 : Int)] 25)).drew) := Lib.hid (((Below.refl _ _).alloc (Nat.le_refl _) _).drew)
          have HC3 : Hid ((w0.alloc (.cells #[.slice none 0 0, .int .i64 0, .int .i64 0, .int .i64 0, .int .i64 0, .int .i64 (a1 : Int), .int .i64 (a2 : Int), .int .i64 (a3 : Int)] 25)).drew.heap[w0.heap.size]? = some (.cells #[.slice none 0 0, .int .i64 0, .int .i64 0, .int .i64 0, .int .i64 0, .int .i64 (a1 : Int), .int .i64 (a2 : Int), .int .i64 (a3 : Int)] 25 (0, 0))) := Lib.hid (heap_alloc_new w0 _)
          clear v1 v2 v3 v4 v5 v6 v7 v8 p0 p1 p2 p3 p4 p5 p6 p7 f5 f6 f7 u0
          go_wp2
          go_loopw [64] (fun i wr => (i = .int .i64 0 ∧ wr.heap[w0.heap.size]? = some (.cells #[.slice none 0 0, .int .i64 0, .int .i64 0, .int .i64 0, .int .i64 0, .int .i64 (a1 : Int), .int .i64 (a2 : Int), .int .i64 (a3 : Int)] 25 (0, 0)) ∧ Below w0.heap.size w0 wr) ∨ (i = .int .i64 1 ∧ wr.heap[w0.heap.size]? = some (.cells #[.slice none 0 0, .int .i64 (a4 : Int), .int .i64 0, .int .i64 0, .int .i64 0, .int .i64 (a1 : Int), .int .i64 (a2 : Int), .int .i64 (a3 : Int)] 25 (0, 0)) ∧ Below w0.heap.size w0 wr) ∨ (i = .int .i64 2 ∧ wr.heap[w0.heap.size]? = some (.cells #[.slice none 0 0, .int .i64 (a4 : Int), .int .i64 (a5 : Int), .int .i64 0, .int .i64 0, .int .i64 (a1 : Int), .int .i64 (a2 : Int), .int .i64 (a3 : Int)] 25 (0, 0)) ∧ Below w0.heap.size w0 wr) ∨ (i = .int .i64 3 ∧ wr.heap[w0.heap.size]? = some (.cells #[.slice none 0 0, .int .i64 (a4 : Int), .int .i64 (a5 : Int), .int .i64 (a6 : Int), .int .i64 0, .int .i64 (a1 : Int), .int .i64 (a2 : Int), .int .i64 (a3 : Int)] 25 (0, 0)) ∧ Below w0.heap.size w0 wr) ∨ (i = .int .i64 4 ∧ wr.heap[w0.heap.size]? = some (.cells #[.slice none 0 0, .int .i64 (a4 : Int), .int .i64 (a5 : Int), .int .i64 (a6 : Int), .int .i64 (a7 : Int), .int .i64 (a1 : Int), .int .i64 (a2 : Int), .int .i64 (a3 : Int)] 25 (0, 0)) ∧ Below w0.heap.size w0 wr)) (fun i _ => 4 - (intOf i).toNat)
          case atStart => exact .inl ⟨rfl, HC3.out, HB3.out⟩
          case round =>
            rcases hrel with ⟨rfl, hc, hb⟩ | ⟨rfl, hc, hb⟩ | ⟨rfl, hc, hb⟩ | ⟨rfl, hc, hb⟩ | ⟨rfl, hc, hb⟩
            · have q := cell_old HQ4.out hb.block
              have HCC := Lib.hid hc
              have HBB := Lib.hid hb
              have p : wr.cell? ⟨w0.heap.size, 1, none⟩ = some (.int .i64 0) := (blk_cell hc 1).trans rfl
              have f := blk_frozen hc 1
              clear hc hb
              go_wp2
              go_roundw
              case rel => exact .inr (.inl ⟨rfl, blk_set HCC.out 1 _, HBB.out.trans (below_of_grown (grown_set _ w0.heap.size 1 _) (Nat.le_refl _) HBB.out.size)⟩)
              case measure => simp [intOf]
            · have q := cell_old HQ5.out hb.block
              have HCC := Lib.hid hc
              have HBB := Lib.hid hb
              have p : wr.cell? ⟨w0.heap.size, 2, none⟩ = some (.int .i64 0) := (blk_cell hc 2).trans rfl
              have f := blk_frozen hc 2
              clear hc hb
              go_wp2
              go_roundw
              case rel => exact .inr (.inr (.inl ⟨rfl, blk_set HCC.out 2 _, HBB.out.trans (below_of_grown (grown_set _ w0.heap.size 2 _) (Nat.le_refl _) HBB.out.size)⟩))
              case measure => simp [intOf]
            · have q := cell_old HQ6.out hb.block
              have HCC := Lib.hid hc
              have HBB := Lib.hid hb
              have p : wr.cell? ⟨w0.heap.size, 3, none⟩ = some (.int .i64 0) := (blk_cell hc 3).trans rfl
              have f := blk_frozen hc 3
              clear hc hb
              go_wp2
              go_roundw
              case rel => exact .inr (.inr (.inr (.inl ⟨rfl, blk_set HCC.out 3 _, HBB.out.trans (below_of_grown (grown_set _ w0.heap.size 3 _) (Nat.le_refl _) HBB.out.size)⟩)))
              case measure => simp [intOf]
            · have q := cell_old HQ7.out hb.block
              have HCC := Lib.hid hc
              have HBB := Lib.hid hb
              have p : wr.cell? ⟨w0.heap.size, 4, none⟩ = some (.int .i64 0) := (blk_cell hc 4).trans rfl
              have f := blk_frozen hc 4
              clear hc hb
              go_wp2
              go_roundw
              case rel => exact .inr (.inr (.inr (.inr ⟨rfl, blk_set HCC.out 4 _, HBB.out.trans (below_of_grown (grown_set _ w0.heap.size 4 _) (Nat.le_refl _) HBB.out.size)⟩)))
              case measure => simp [intOf]
            · have HR5 := Lib.hid (blk_below HR0.out hb)
              have HCC := Lib.hid hc
              have HBB := Lib.hid hb
              clear hc hb
              obtain ⟨A9, c9, hsl, hrd⟩ := mid (A := some ad) (c := c) (ws := ws) 9 n (by omega) hlc (by omega)
              have hsl : ∀ W : World, (Instr.slice 37 (.slice (some ad) ws.length c) (some (.int .i64 9)) (some (.int .i64 (9 + (n : Int)))) none).run Try.prog W = .ok (.slice A9 n c9) W := hsl
              have HSR := Lib.hid hrd
              clear hrd
              go_wp2
              go_loopw [82] (fun i wr => ∃ (j : Nat) (v : Value), j ≤ n ∧ i = .int .i64 (j : Int) ∧ RK wr w0.heap.size v (kds ws j) ∧ allK ws j = true ∧ wr.heap[w0.heap.size]? = some (.cells #[v, .int .i64 (a4 : Int), .int .i64 (a5 : Int), .int .i64 (a6 : Int), .int .i64 (a7 : Int), .int .i64 (a1 : Int), .int .i64 (a2 : Int), .int .i64 (a3 : Int)] 25 (0, 0)) ∧ wr.heap[w.heap.size]? = some (.cells #[.slice none 0 0, .int .i64 0, .int .i64 0, .int .i64 0, .int .i64 0, .int .i64 0, .int .i64 0, .int .i64 0] 25 (0, 0)) ∧ Below w0.heap.size w0 wr) (fun i _ => n - (intOf i).toNat)
              case atStart => exact ⟨0, _, by omega, rfl, RK.nil _ _, rfl, HCC.out, HR5.out, HBB.out⟩
              case round =>
                obtain ⟨j, v, hj, rfl, hrk, hak, hcc, hrr, hb⟩ := hrel
                have HRK := Lib.hid hrk
                have HAK := Lib.hid hak
                have HC := Lib.hid hcc
                have HR := Lib.hid hrr
                have HB := Lib.hid hb
                have HBw := Lib.hid (HB0.out.trans (hb.mono HB0.out.size))
                have hsz := blk_lt HC.out
                have hs0 := hb.size
                clear hrk hak hcc hrr
                by_cases hlt : j < n
                · obtain ⟨ad9, rfl, hq⟩ := HSR.out wr (HW0.out.old hb.block) j hlt
                  have hy := HBD.out _ (mem_getD (d := (0 : Nat)) (show 9 + j < ws.length by omega))
                  have HKS : Hid (kds ws (j + 1) = kds ws j ++ [fl (ws.getD (9 + j) 0)]) := Lib.hid rfl
                  have HKA : Hid (allK ws (j + 1) = (allK ws j && kP (ws.getD (9 + j) 0))) := Lib.hid rfl
                  have HKN := Lib.hid (fun h => allK_no (ws := ws) (k := j) hlt h)
                  obtain ⟨y, hyy⟩ : ∃ y, ws.getD (9 + j) 0 = y := ⟨_, rfl⟩
                  rw [hyy] at hq hy HKS HKA HKN
                  have HKP := Lib.hid (rkparse_any y hy wr)
                  have hlk := kds_len ws j
                  obtain ⟨L, hL⟩ : ∃ L, kds ws j = L := ⟨_, rfl⟩
                  rw [hL] at HRK HKS hlk
                  have hLb : L.length ≤ 200 := by omega
                  clear hlk
                  clear hyy hb hL
                  go_wp2_with fail
                  refine HKP.out.mono ?_
                  rintro e w1 ⟨hb1, ⟨hk1, v1, rfl, hv1⟩ | ⟨hk0, rfl⟩⟩
                  · have HV1 : Hid (RI (w1.alloc (.cells #[v1] 54)) wr.heap.size v1 (fl y)) := Lib.hid (Kd.R_alloc hv1 (.cells #[v1] 54))
                    have HA1 : Hid (allK ws (j + 1) = true) := Lib.hid (by rw [HKA.out, HAK.out, hk1]; rfl)
                    obtain ⟨A5, c5, rfl, _, _⟩ := RI.reads (l := fl y) hv1
                    have HBa := Lib.hid ((HB.out.trans (hb1.mono HB.out.size)).alloc (HB.out.trans (hb1.mono HB.out.size)).size (.cells #[.slice A5 (fl y).length c5] 54))
                    have HCa := Lib.hid (blk_alloc (blk_below HC.out hb1) (.cells #[.slice A5 (fl y).length c5] 54))
                    have HRa := Lib.hid (blk_alloc (blk_below HR.out hb1) (.cells #[.slice A5 (fl y).length c5] 54))
                    have HRKa := Lib.hid (Kd.R_alloc (HRK.out.below hb1) (.cells #[.slice A5 (fl y).length c5] 54))
                    have HM := Lib.hid (kK_M HRKa.out HB.out.size HV1.out (fun q hq => Kd.R_lt HRK.out q hq))
                    obtain ⟨A6, c6, rfl, _, _⟩ := RK.reads HRK.out
                    have p0 : (w1.alloc (.cells #[.slice A5 (fl y).length c5] 54)).cell? ⟨w0.heap.size, 0, none⟩ = some (.slice A6 L.length c6) := (blk_cell HCa.out 0).trans rfl
                    clear hv1 hb1 hk1
                    go_wp2_with (at_builtin; refine Kd.R_append (P := Try.prog) kK (w0 := w0) (W := w1.alloc (.cells #[.slice A5 (fl y).length c5] 54)) w0.heap.size rfl (.tmp 95) (.tmp 97) 22 54 (.agg #[.slice none 0 0]) 24 rfl Try.underlying22 info54 rfl (by decide) (by decide) _ L (fl y) [.slice A5 (fl y).length c5] (fun _ => True) _ rfl (congrArg (fun n => Value.slice (some ⟨n, 0, none⟩) 1 1) (size_al w1 (.cells #[.slice A5 (fl y).length c5] 54)).symm) HM.out (fun k hk => ⟨trivial, hk⟩) (fun _ _ => trivial) HRKa.out HBa.out HBa.out.size ?c1 ?_)
                    try (case c1 => omega)
                    intro v9 w9 hr9 hb9 hg9 hat9
                    obtain ⟨A3, c3, rfl, _, _⟩ := Kd.R_reads hr9
                    simp only [List.length_append, List.length_cons, List.length_nil, Nat.zero_add] at hr9 ⊢
                    have HC9 := Lib.hid ((hg9.block w0.heap.size (blk_lt HCa.out) (Kd.R_ne HRKa.out HCa.out (by decide))).trans HCa.out)
                    have HR9 := Lib.hid ((hg9.block w.heap.size (blk_lt HRa.out) (Kd.R_ne HRKa.out HRa.out (by decide))).trans HRa.out)
                    have HRK9 : Hid (RK w9 w0.heap.size (.slice A3 (L.length + 1) c3) (kds ws (j + 1))) := Lib.hid (by rw [HKS.out]; exact hr9)
                    have HB9 := Lib.hid hb9
                    have r0 : w9.cell? ⟨w0.heap.size, 0, none⟩ = some (.slice A6 L.length c6) := (blk_cell HC9.out 0).trans rfl
                    have r1 := blk_frozen HC9.out 0
                    clear hr9 hg9 hat9 hb9 p0
                    go_wp2
                    go_roundw
                    case rel => exact ⟨j + 1, _, by omega, by go_num, RK.set HRK9.out HC9.out 0 _, HA1.out, blk_set HC9.out 0 _, blk_far HR9.out (by show w.heap.size ≠ w0.heap.size; have := blk_lt HR0.out; omega) _, HB9.out.trans (below_of_grown (grown_set _ w0.heap.size 0 _) (Nat.le_refl _) HB9.out.size)⟩
                    case measure => simp [intOf]; omega
                  · have HBz := Lib.hid ((HBw.out.trans (hb1.mono HBw.out.size)).alloc (HBw.out.trans (hb1.mono HBw.out.size)).size (.cells #[.slice none 0 0] 54))
                    have HRz := Lib.hid (blk_alloc (blk_below HR.out hb1) (.cells #[.slice none 0 0] 54))
                    have HNO : Hid (¬ Ok ws) := Lib.hid (fun o => by have := o.k; rw [HN.out, HKN.out hk0] at this; cases this)
                    clear hb1 hk0
                    obtain ⟨wz, hwz, hxz, hgz⟩ := store8 HRz.out rfl none 0 0 0 0 0 0 0 0 0
                    have HWZ := Lib.hid hwz
                    have HXZ := Lib.hid hxz
                    have HTH := Lib.hid (there8 HRz.out rfl)
                    have HBZ := Lib.hid (HBz.out.trans (below_of_grown hgz (Nat.le_refl _) HBz.out.size))
                    clear hwz hxz hgz
                    go_wp2_with (refine store_named (P := Try.prog) rfl 25 (.tmp 2) (.tmp 93) rfl w.heap.size 0 #[.slice none 0 0, .int .i64 0, .int .i64 0, .int .i64 0, .int .i64 0, .int .i64 0, .int .i64 0, .int .i64 0] rfl rfl HTH.out info25 (one8 _ _ _ _ _ _ _ _ _ _) HWZ.out ?_)
                    go_wp2
                    (try simp only [Exit.inBlock, Exit.then])
                    refine bodyPost_ret (results_ct rfl _ _ w.heap.size 25 _ (0, 0) _ rfl HXZ.out Try.underlying25 rfl info25) rfl ?_
                    exact HF.out (HNO.out) _ HBZ.out
                · obtain rfl : j = n := by omega
                  obtain ⟨A5, c5, rfl, hl5, hks⟩ := RK.reads HRK.out
                  have HKS := Lib.hid hks
                  have hln : 9 + j ≤ ws.length := by omega
                  obtain ⟨L, hL⟩ : ∃ L, kds ws j = L := ⟨_, rfl⟩
                  rw [hL] at HRK HKS HC HCF HOK hl5
                  obtain ⟨p0, p1, p2, p3, p4, p5, p6, p7⟩ := cells8 HC.out
                  have HMY := Lib.hid (Mr.rmay_any A5 c5 L (a4 : Int) (a5 : Int) (a6 : Int) (a7 : Int) (a1 : Int) (a2 : Int) (a3 : Int) wr HKS.out)
                  by_cases hm : mayE ⟨L, (a4 : Int), (a5 : Int), (a6 : Int), (a7 : Int), (a1 : Int), (a2 : Int), (a3 : Int)⟩ = 0
                  · have HOW : Hid (Ok ws) := Lib.hid ⟨by omega, HA0.out, by rw [HN.out]; exact hln, by rw [HN.out]; exact HAK.out, HCF.out.trans hm⟩
                    rw [hm] at HMY
                    clear hks hm hL hb
                    go_wp2_with fail
                    refine HMY.out.mono ?_
                    rintro e w1 ⟨rfl, hb1⟩
                    have HB1 := Lib.hid (HBw.out.trans (hb1.mono HBw.out.size))
                    have HC1 := Lib.hid (blk_below HC.out hb1)
                    have HR1 := Lib.hid (blk_below HR.out hb1)
                    have HRK1 := Lib.hid (HRK.out.below hb1)
                    clear hb1 p0 p1 p2 p3 p4 p5 p6 p7
                    obtain ⟨p0, p1, p2, p3, p4, p5, p6, p7⟩ := cells8 HC1.out
                    obtain ⟨w5, hw5, hx5, hg5⟩ := store8 HR1.out rfl A5 L.length c5 (a4 : Int) (a5 : Int) (a6 : Int) (a7 : Int) (a1 : Int) (a2 : Int) (a3 : Int)
                    have HW5 := Lib.hid hw5
                    have HX5 := Lib.hid hx5
                    have HTH := Lib.hid (there8 HR1.out rfl)
                    have HK5 : Hid (Ks w5 A5 L) := Lib.hid (by
                      have h0 := Kd.R_step (Kd.R_bound HRK1.out) (fun q hq hlt => hg5.block q hlt (fun e => by obtain ⟨_, h1, _⟩ := hq; have := blk_lt HR0.out; injection e with e; omega))
                      obtain ⟨A6, c6, e6, _, h6⟩ := Kd.R_reads h0
                      injection e6 with e6 _ _
                      subst e6
                      exact ks_C h6 (Nat.le_refl _))
                    have HB5 := Lib.hid (HB1.out.trans (below_of_grown hg5 (Nat.le_refl _) HB1.out.size))
                    clear hw5 hx5 hg5
                    go_wp2_with (refine store_named (P := Try.prog) rfl 25 (.tmp 2) (.tmp 105) rfl w.heap.size 0 #[.slice A5 L.length c5, .int .i64 (a4 : Int), .int .i64 (a5 : Int), .int .i64 (a6 : Int), .int .i64 (a7 : Int), .int .i64 (a1 : Int), .int .i64 (a2 : Int), .int .i64 (a3 : Int)] rfl rfl HTH.out info25 (one8 _ _ _ _ _ _ _ _ _ _) HW5.out ?_)
                    go_wp2
                    (try simp only [Exit.inBlock, Exit.then])
                    refine bodyPost_ret (results_ct rfl _ _ w.heap.size 25 _ (0, 0) _ rfl HX5.out Try.underlying25 rfl info25) rfl ?_
                    exact HOK.out HOW.out _ A5 c5 HB5.out HK5.out hl5
                  · have HNO : Hid (¬ Ok ws) := Lib.hid (fun o => hm (HCF.out.symm.trans o.m))
                    obtain ⟨E, hE⟩ : ∃ E, mayE ⟨L, (a4 : Int), (a5 : Int), (a6 : Int), (a7 : Int), (a1 : Int), (a2 : Int), (a3 : Int)⟩ = E := ⟨_, rfl⟩
                    rw [hE] at HMY hm
                    have be : (E == 0) = false := beq_eq_false_iff_ne.2 hm
                    have bn : (E != 0) = true := bne_iff_ne.2 hm
                    clear hks hm hE hL hb
                    go_wp2_with fail
                    refine HMY.out.mono ?_
                    rintro e w1 ⟨rfl, hb1⟩
                    have HB1 := Lib.hid (HBw.out.trans (hb1.mono HBw.out.size))
                    have HR1 := Lib.hid (blk_below HR.out hb1)
                    clear hb1
                    obtain ⟨wz, hwz, hxz, hgz⟩ := store8 HR1.out rfl none 0 0 0 0 0 0 0 0 0
                    have HWZ := Lib.hid hwz
                    have HXZ := Lib.hid hxz
                    have HTH := Lib.hid (there8 HR1.out rfl)
                    have HBZ := Lib.hid (HB1.out.trans (below_of_grown hgz (Nat.le_refl _) HB1.out.size))
                    clear hwz hxz hgz
                    go_wp2_with (refine store_named (P := Try.prog) rfl 25 (.tmp 2) (.tmp 104) rfl w.heap.size 0 #[.slice none 0 0, .int .i64 0, .int .i64 0, .int .i64 0, .int .i64 0, .int .i64 0, .int .i64 0, .int .i64 0] rfl rfl HTH.out info25 (one8 _ _ _ _ _ _ _ _ _ _) HWZ.out ?_)
                    go_wp2
                    (try simp only [Exit.inBlock, Exit.then])
                    refine bodyPost_ret (results_ct rfl _ _ w.heap.size 25 _ (0, 0) _ rfl HXZ.out Try.underlying25 rfl info25) rfl ?_
                    exact HF.out (HNO.out) _ HBZ.out
  · have bn : ((a0 : Int) == 8317131967827831151) = false := beq_eq_false_iff_ne.2 (by omega)
    have bn2 : ((a0 : Int) != 8317131967827831151) = true := bne_iff_ne.2 (by omega)
    have HNS := Lib.hid hs
    clear hs
    go_enter Try.func17, Try.ntmps17
    obtain ⟨wz, hwz, hxz, hgz⟩ := store8 HRX.out rfl none 0 0 0 0 0 0 0 0 0
    have HWZ := Lib.hid hwz
    have HXZ := Lib.hid hxz
    have HTH := Lib.hid (there8 HRX.out rfl)
    have HBZ := Lib.hid (HBX.out.trans (below_of_grown hgz (Nat.le_refl _) HBX.out.size))
    clear hwz hxz hgz
    go_wp2_with (refine store_named (P := Try.prog) rfl 25 (.tmp 2) (.tmp 23) rfl w.heap.size 0 #[.slice none 0 0, .int .i64 0, .int .i64 0, .int .i64 0, .int .i64 0, .int .i64 0, .int .i64 0, .int .i64 0] rfl rfl HTH.out info25 (one8 _ _ _ _ _ _ _ _ _ _) HWZ.out ?_)
    go_wp2
    (try simp only [Exit.inBlock, Exit.then])
    refine bodyPost_ret (results_ct rfl _ _ w.heap.size 25 _ (0, 0) _ rfl HXZ.out Try.underlying25 rfl info25) rfl ?_
    exact HF.out (fun o => HNS.out (HA0.out.symm.trans o.s)) _ HBZ.out
end Go.Proofs.Ytlmlckidgfnhdaa.Pr
