/- Parse, the program's. -/
import Derived.Test.YtlmlckidgfnhdaaPp
namespace Go.Proofs.Ytlmlckidgfnhdaa.Pa
open Go.RowKit Go.ChangeShapes Go.WideShapes Go.Proofs.YtlmlckidgfnhdaaW.PrintWords Go.Proofs.Ytlmlckidgfnhdaa.Ba Go.Proofs.Ytlmlckidgfnhdaa.Kw Go.Proofs.Ytlmlckidgfnhdaa.Kx Go.Proofs.Ytlmlckidgfnhdaa.Pc Go.Proofs.Ytlmlckidgfnhdaa.My Go.Proofs.Ytlmlckidgfnhdaa.Ow Go.Proofs.Ytlmlckidgfnhdaa.Wd Go.Proofs.Ytlmlckidgfnhdaa.Kp Go.Proofs.Ytlmlckidgfnhdaa.Pp
set_option linter.unusedVariables false
set_option linter.unusedSimpArgs false
theorem add0 (a : Addr) : a.add 0 = a := by
  unfold Addr.add
  obtain ⟨b, o, s⟩ := a
  cases s <;> simp
theorem WR.cell {w : World} {ad : Addr} {l : List Nat} (h : WR w (some ad) l) (i : Nat) (hi : i < l.length) : w.cell? (ad.add i) = some (.int .u64 ((l.getD i 0 : Nat) : Int)) := by
  obtain ⟨ad', e, hc⟩ := h i hi
  injection e with e
  subst e
  exact hc
theorem WR.cellS {w : World} {ad : Addr} {l : List Nat} (h : WR w (some ad) l) (i : Nat) (hi : i < l.length) (h0 : 0 < i) : w.cell? ⟨ad.block, ad.off + i, none⟩ = some (.int .u64 ((l.getD i 0 : Nat) : Int)) := by
  have hc := WR.cell h i hi
  unfold Addr.add at hc
  rw [if_neg (by omega)] at hc
  exact hc
theorem RK.set {w : World} {base g : Nat} {v : Value} {l : List (List Int)} {cs : Array Value} (h : RK w base v l) (hb : w.heap[g]? = some (.cells cs 25 (0, 0))) (j : Nat) (u : Value) : RK (w.setCell ⟨g, j, none⟩ u) base v l :=
  Kd.R_set h hb (fun q hq => by
    have : q = 54 ∨ q = 3 := by simpa [kK, Kd.slice, Kd.int, Kd.scalar] using hq
    rcases this with rfl | rfl <;> decide) j u
theorem info30 : (Try.prog.info? 30).map (·.size) = some 1 := by kernel_rfl
theorem mid {A : Option Addr} {c : Nat} {ws : List Nat} (a n : Nat) (h1 : a + n ≤ ws.length) (hc : ws.length ≤ c) (hl : ws.length ≤ 1000000) :
    ∃ A' c', (∀ W : World, (Instr.slice 37 (.slice A ws.length c) (some (.int .i64 (a : Int))) (some (.int .i64 ((a : Int) + (n : Int)))) none).run Try.prog W = .ok (.slice A' n c') W) ∧
      ∀ w, WR w A ws → ∀ i, i < n → ∃ ad, A' = some ad ∧ w.cell? (ad.add i) = some (.int .u64 ((ws.getD (a + i) 0 : Nat) : Int)) := by
  obtain ⟨i, hi, hs⟩ : ∃ i, Try.prog.info? 30 = some i ∧ i.size = 1 := by
    have h := info30
    cases e : Try.prog.info? 30 with
    | none => rw [e] at h; cases h
    | some i => rw [e] at h; exact ⟨i, rfl, by simpa using h⟩
  obtain ⟨A', r, rd, _⟩ := print_mid_of (P := Try.prog) (fun x : Nat => Value.int .u64 (x : Int)) 0 37 30 .i64 .i64 Try.underlying37 hi hs A c ws (a : Int) ((a : Int) + (n : Int)) (by omega) (by omega) (by omega) hc
  have hn : ((ws.take ((a : Int) + (n : Int)).toNat).drop (a : Int).toNat).length = n := by rw [List.length_drop, List.length_take]; omega
  rw [hn] at r
  refine ⟨A', _, r, fun w hw k hk => ?_⟩
  have hR : ReadsOf (fun x : Nat => Value.int .u64 (x : Int)) 0 w A ws.length ws := by
    refine ⟨rfl, by omega, fun h0 => ?_⟩
    obtain ⟨ad, rfl, _⟩ := hw 0 h0
    exact ⟨ad, rfl, fun j hj => WR.cell hw j hj⟩
  obtain ⟨_, _, h3⟩ := rd w hR
  rw [hn] at h3
  obtain ⟨ad, e, hcell⟩ := h3 (by omega)
  refine ⟨ad, e, ?_⟩
  rw [hcell k hk, List.getD_eq_getElem?_getD, List.getElem?_drop, List.getElem?_take, if_pos (by omega), ← List.getD_eq_getElem?_getD, Int.toNat_natCast]
set_option maxHeartbeats 16000000 in
set_option maxRecDepth 20000 in
theorem parse_any (A : Option Addr) (c : Nat) (ws : List Nat) (w : World) (h : WR w A ws) (hl : ws.length ≤ 200) (hlc : ws.length ≤ c) (hbd : ∀ y ∈ ws, y < 18446744073709551616) : Calls Try.prog 16 #[.slice A ws.length c] w (PPost ws w) := by
  have hz25 : ∀ w, (zeroValue 25).run Try.prog w = .ok (.agg #[.slice none 0 0, .int .i64 0, .int .i64 0, .int .i64 0, .int .i64 0, .int .i64 0, .int .i64 0, .int .i64 0]) w := fun w => by kernel_rfl
  have hz54 : ∀ w, (zeroValue 54).run Try.prog w = .ok (.agg #[.slice none 0 0]) w := fun w => by kernel_rfl
  have hz23 : ∀ w, (zeroValue 23).run Try.prog w = .ok (.agg #[.int .i64 0, .int .i64 0, .int .i64 0, .int .i64 0]) w := fun w => by kernel_rfl
  have HF : Hid (¬ Ok ws → ∀ w', Below w.heap.size w w' → PPost ws w (.returned (.tuple #[.agg #[.slice none 0 0, .int .i64 0, .int .i64 0, .int .i64 0, .int .i64 0, .int .i64 0, .int .i64 0, .int .i64 0], .int .i64 8])) w') := Lib.hid (fun h w' hb => ⟨hb, .inr ⟨h, rfl⟩⟩)
  have HOK : Hid (Ok ws → ∀ w' A k, Below w.heap.size w w' → Ks w' A (kds ws (kN ws)) → (kds ws (kN ws)).length ≤ k → PPost ws w (.returned (.tuple #[.agg #[.slice A (kds ws (kN ws)).length k, .int .i64 (num (ws.getD 4 0)), .int .i64 (num (ws.getD 5 0)), .int .i64 (num (ws.getD 6 0)), .int .i64 (num (ws.getD 7 0)), .int .i64 (num (ws.getD 1 0)), .int .i64 (num (ws.getD 2 0)), .int .i64 (num (ws.getD 3 0))], .int .i64 0])) w') :=
    Lib.hid (fun h w' A k hb hk hl => ⟨hb, .inl ⟨h, A, k, rfl, hk, hl⟩⟩)
  have HB0 := Lib.hid ((Below.refl w.heap.size w).alloc (Nat.le_refl _) (.cells #[.slice none 0 0, .int .i64 0, .int .i64 0, .int .i64 0, .int .i64 0, .int .i64 0, .int .i64 0, .int .i64 0] 25))
  have HR0 := Lib.hid (heap_alloc_new w (.cells #[.slice none 0 0, .int .i64 0, .int .i64 0, .int .i64 0, .int .i64 0, .int .i64 0, .int .i64 0, .int .i64 0] 25))
  have HW0 := Lib.hid (h.old HB0.out.block)
  have HBD := Lib.hid hbd
  obtain ⟨w0, hw0⟩ : ∃ w0, w.alloc (.cells #[.slice none 0 0, .int .i64 0, .int .i64 0, .int .i64 0, .int .i64 0, .int .i64 0, .int .i64 0, .int .i64 0] 25) = w0 := ⟨_, rfl⟩
  rw [hw0] at HB0 HR0 HW0
  clear h hbd
  by_cases h9 : ws.length < 9
  · go_enter Try.func16, Try.ntmps16
    obtain ⟨wz, hwz, hxz, hgz⟩ := store8 HR0.out rfl none 0 0 0 0 0 0 0 0 0
    have HWZ := Lib.hid hwz
    have HXZ := Lib.hid hxz
    have HTH := Lib.hid (there8 HR0.out rfl)
    have HBZ := Lib.hid (HB0.out.trans (below_of_grown hgz (Nat.le_refl _) HB0.out.size))
    clear hwz hxz hgz
    go_wp2_with (refine store_named (P := Try.prog) rfl 25 (.tmp 2) (.tmp 20) rfl w.heap.size 0 #[.slice none 0 0, .int .i64 0, .int .i64 0, .int .i64 0, .int .i64 0, .int .i64 0, .int .i64 0, .int .i64 0] rfl rfl HTH.out info25 (one8 _ _ _ _ _ _ _ _ _ _) HWZ.out ?_)
    go_wp2
    (try simp only [Exit.inBlock, Exit.then])
    refine bodyPost_ret (results_ct rfl _ _ w.heap.size 25 _ (0, 0) _ rfl HXZ.out Try.underlying25 rfl info25) rfl ?_
    exact HF.out (fun o => by have := o.l; omega) _ HBZ.out
  obtain ⟨ad, rfl, _⟩ := HW0.out 0 (by omega)
  have q0 := WR.cell HW0.out 0 (by omega)
  have q1 := WR.cellS HW0.out 1 (by omega) (by omega)
  have g1 : (1 : Int) < (ws.length : Int) := by omega
  have q2 := WR.cellS HW0.out 2 (by omega) (by omega)
  have g2 : (2 : Int) < (ws.length : Int) := by omega
  have q3 := WR.cellS HW0.out 3 (by omega) (by omega)
  have g3 : (3 : Int) < (ws.length : Int) := by omega
  have q4 := WR.cellS HW0.out 4 (by omega) (by omega)
  have g4 : (4 : Int) < (ws.length : Int) := by omega
  have q5 := WR.cellS HW0.out 5 (by omega) (by omega)
  have g5 : (5 : Int) < (ws.length : Int) := by omega
  have q6 := WR.cellS HW0.out 6 (by omega) (by omega)
  have g6 : (6 : Int) < (ws.length : Int) := by omega
  have q7 := WR.cellS HW0.out 7 (by omega) (by omega)
  have g7 : (7 : Int) < (ws.length : Int) := by omega
  have q8 := WR.cellS HW0.out 8 (by omega) (by omega)
  have g8 : (8 : Int) < (ws.length : Int) := by omega
  obtain ⟨a0, ha0⟩ : ∃ a, ws.getD 0 0 = a := ⟨_, rfl⟩
  obtain ⟨a1, ha1⟩ : ∃ a, ws.getD 1 0 = a := ⟨_, rfl⟩
  obtain ⟨a2, ha2⟩ : ∃ a, ws.getD 2 0 = a := ⟨_, rfl⟩
  obtain ⟨a3, ha3⟩ : ∃ a, ws.getD 3 0 = a := ⟨_, rfl⟩
  obtain ⟨a4, ha4⟩ : ∃ a, ws.getD 4 0 = a := ⟨_, rfl⟩
  obtain ⟨a5, ha5⟩ : ∃ a, ws.getD 5 0 = a := ⟨_, rfl⟩
  obtain ⟨a6, ha6⟩ : ∃ a, ws.getD 6 0 = a := ⟨_, rfl⟩
  obtain ⟨a7, ha7⟩ : ∃ a, ws.getD 7 0 = a := ⟨_, rfl⟩
  obtain ⟨a8, ha8⟩ : ∃ a, ws.getD 8 0 = a := ⟨_, rfl⟩
  rw [ha0] at q0
  rw [ha1] at q1
  rw [ha2] at q2
  rw [ha3] at q3
  rw [ha4] at q4
  rw [ha5] at q5
  rw [ha6] at q6
  rw [ha7] at q7
  rw [ha8] at q8
  rw [add0] at q0
  rw [ha4, ha5, ha6, ha7, ha1, ha2, ha3] at HOK
  have HN : Hid (kN ws = num a8) := Lib.hid (by unfold kN; rw [ha8])
  have HCF : Hid (mayE (cfW ws) = mayE ⟨kds ws (num a8), num a4, num a5, num a6, num a7, num a1, num a2, num a3⟩) := Lib.hid (by unfold cfW cfN; rw [HN.out, ha1, ha2, ha3, ha4, ha5, ha6, ha7])
  have HA0 := Lib.hid ha0
  rw [HN.out] at HOK
  clear ha0 ha1 ha2 ha3 ha4 ha5 ha6 ha7 ha8
  by_cases hs : a0 = 8317131967827831151
  · subst hs
    have q0 : w0.cell? ad = some (.int .u64 8317131967827831151) := q0
    go_enter Try.func16, Try.ntmps16
    go_wp2
    go_region_held3 (fun w' => w'.cell? ⟨ad.block, ad.off + 1, none⟩ = some (.int .u64 (a1 : Int)) ∧ w'.cell? ⟨ad.block, ad.off + 2, none⟩ = some (.int .u64 (a2 : Int)) ∧ w'.cell? ⟨ad.block, ad.off + 3, none⟩ = some (.int .u64 (a3 : Int))) (first | (refine ⟨?_, ?_, ?_⟩ <;> assumption) | go_keep)
      (first | (go_at_call 37; go_must (refine (number_any _ _).mono ?_; rintro e w6 ⟨rfl, rfl⟩)) | fail)
    all_goals
      have HB3 : Hid (Below w0.heap.size w0 (w0.alloc (.cells #[.slice none 0 0, .int .i64 0, .int .i64 0, .int .i64 0, .int .i64 0, .int .i64 (num a1), .int .i64 (num a2), .int .i64 (num a3)] 25)).drew) := Lib.hid (((Below.refl _ _).alloc (Nat.le_refl _) _).drew)
      have HC3 : Hid ((w0.alloc (.cells #[.slice none 0 0, .int .i64 0, .int .i64 0, .int .i64 0, .int .i64 0, .int .i64 (num a1), .int .i64 (num a2), .int .i64 (num a3)] 25)).drew.heap[w0.heap.size]? = some (.cells #[.slice none 0 0, .int .i64 0, .int .i64 0, .int .i64 0, .int .i64 0, .int .i64 (num a1), .int .i64 (num a2), .int .i64 (num a3)] 25 (0, 0))) := Lib.hid (heap_alloc_new w0 _)

      go_wp2
      go_loopw [34] (fun i wr => (i = .int .i64 0 ∧ wr.heap[w0.heap.size]? = some (.cells #[.slice none 0 0, .int .i64 0, .int .i64 0, .int .i64 0, .int .i64 0, .int .i64 (num a1), .int .i64 (num a2), .int .i64 (num a3)] 25 (0, 0)) ∧ Below w0.heap.size w0 wr) ∨ (i = .int .i64 1 ∧ wr.heap[w0.heap.size]? = some (.cells #[.slice none 0 0, .int .i64 (num a4), .int .i64 0, .int .i64 0, .int .i64 0, .int .i64 (num a1), .int .i64 (num a2), .int .i64 (num a3)] 25 (0, 0)) ∧ Below w0.heap.size w0 wr) ∨ (i = .int .i64 2 ∧ wr.heap[w0.heap.size]? = some (.cells #[.slice none 0 0, .int .i64 (num a4), .int .i64 (num a5), .int .i64 0, .int .i64 0, .int .i64 (num a1), .int .i64 (num a2), .int .i64 (num a3)] 25 (0, 0)) ∧ Below w0.heap.size w0 wr) ∨ (i = .int .i64 3 ∧ wr.heap[w0.heap.size]? = some (.cells #[.slice none 0 0, .int .i64 (num a4), .int .i64 (num a5), .int .i64 (num a6), .int .i64 0, .int .i64 (num a1), .int .i64 (num a2), .int .i64 (num a3)] 25 (0, 0)) ∧ Below w0.heap.size w0 wr) ∨ (i = .int .i64 4 ∧ wr.heap[w0.heap.size]? = some (.cells #[.slice none 0 0, .int .i64 (num a4), .int .i64 (num a5), .int .i64 (num a6), .int .i64 (num a7), .int .i64 (num a1), .int .i64 (num a2), .int .i64 (num a3)] 25 (0, 0)) ∧ Below w0.heap.size w0 wr)) (fun i _ => 4 - (intOf i).toNat)
      case atStart => exact .inl ⟨rfl, HC3.out, HB3.out⟩
      case round =>
        rcases hrel with ⟨rfl, hc, hb⟩ | ⟨rfl, hc, hb⟩ | ⟨rfl, hc, hb⟩ | ⟨rfl, hc, hb⟩ | ⟨rfl, hc, hb⟩
        · have q := cell_old q4 hb.block
          have HCC := Lib.hid hc
          have HBB := Lib.hid hb
          have p : wr.cell? ⟨w0.heap.size, 1, none⟩ = some (.int .i64 0) := (blk_cell hc 1).trans rfl
          have f := blk_frozen hc 1
          clear hc hb
          go_wp2_with fail
          refine (number_any _ _).mono ?_
          rintro e w6 ⟨rfl, rfl⟩
          go_wp2
          go_roundw
          case rel => exact .inr (.inl ⟨rfl, blk_set HCC.out 1 _, HBB.out.trans (below_of_grown (grown_set _ w0.heap.size 1 _) (Nat.le_refl _) HBB.out.size)⟩)
          case measure => simp [intOf]
        · have q := cell_old q5 hb.block
          have HCC := Lib.hid hc
          have HBB := Lib.hid hb
          have p : wr.cell? ⟨w0.heap.size, 2, none⟩ = some (.int .i64 0) := (blk_cell hc 2).trans rfl
          have f := blk_frozen hc 2
          clear hc hb
          go_wp2_with fail
          refine (number_any _ _).mono ?_
          rintro e w6 ⟨rfl, rfl⟩
          go_wp2
          go_roundw
          case rel => exact .inr (.inr (.inl ⟨rfl, blk_set HCC.out 2 _, HBB.out.trans (below_of_grown (grown_set _ w0.heap.size 2 _) (Nat.le_refl _) HBB.out.size)⟩))
          case measure => simp [intOf]
        · have q := cell_old q6 hb.block
          have HCC := Lib.hid hc
          have HBB := Lib.hid hb
          have p : wr.cell? ⟨w0.heap.size, 3, none⟩ = some (.int .i64 0) := (blk_cell hc 3).trans rfl
          have f := blk_frozen hc 3
          clear hc hb
          go_wp2_with fail
          refine (number_any _ _).mono ?_
          rintro e w6 ⟨rfl, rfl⟩
          go_wp2
          go_roundw
          case rel => exact .inr (.inr (.inr (.inl ⟨rfl, blk_set HCC.out 3 _, HBB.out.trans (below_of_grown (grown_set _ w0.heap.size 3 _) (Nat.le_refl _) HBB.out.size)⟩)))
          case measure => simp [intOf]
        · have q := cell_old q7 hb.block
          have HCC := Lib.hid hc
          have HBB := Lib.hid hb
          have p : wr.cell? ⟨w0.heap.size, 4, none⟩ = some (.int .i64 0) := (blk_cell hc 4).trans rfl
          have f := blk_frozen hc 4
          clear hc hb
          go_wp2_with fail
          refine (number_any _ _).mono ?_
          rintro e w6 ⟨rfl, rfl⟩
          go_wp2
          go_roundw
          case rel => exact .inr (.inr (.inr (.inr ⟨rfl, blk_set HCC.out 4 _, HBB.out.trans (below_of_grown (grown_set _ w0.heap.size 4 _) (Nat.le_refl _) HBB.out.size)⟩)))
          case measure => simp [intOf]
        · have q := cell_old q8 hb.block
          have HR5 := Lib.hid (blk_below HR0.out hb)
          have HCC := Lib.hid hc
          have HBB := Lib.hid hb
          have HWW := Lib.hid (HW0.out.old hb.block)
          have HBW := Lib.hid (HB0.out.trans (hb.mono HB0.out.size))
          clear hc hb q1 q2 q3 q4 q5 q6 q7 q8
          go_wp2_with fail
          refine (number_any _ _).mono ?_
          rintro e w6 ⟨rfl, rfl⟩
          obtain ⟨n, hn⟩ : ∃ n, num a8 = n := ⟨_, rfl⟩
          rw [hn] at HN HCF HOK ⊢
          clear hn
          by_cases hgt : ws.length < 9 + n
          · have d1 : decide (((ws.length : Int) - 9) < (n : Int)) = true := decide_eq_true (by omega)
            obtain ⟨wz, hwz, hxz, hgz⟩ := store8 HR5.out rfl none 0 0 0 0 0 0 0 0 0
            have HWZ := Lib.hid hwz
            have HXZ := Lib.hid hxz
            have HTH := Lib.hid (there8 HR5.out rfl)
            have HBZ := Lib.hid (HBW.out.trans (below_of_grown hgz (Nat.le_refl _) HBW.out.size))
            clear hwz hxz hgz
            go_wp2_with (refine store_named (P := Try.prog) rfl 25 (.tmp 2) (.tmp 56) rfl w.heap.size 0 #[.slice none 0 0, .int .i64 0, .int .i64 0, .int .i64 0, .int .i64 0, .int .i64 0, .int .i64 0, .int .i64 0] rfl rfl HTH.out info25 (one8 _ _ _ _ _ _ _ _ _ _) HWZ.out ?_)
            go_wp2
            (try simp only [Exit.inBlock, Exit.then])
            refine bodyPost_ret (results_ct rfl _ _ w.heap.size 25 _ (0, 0) _ rfl HXZ.out Try.underlying25 rfl info25) rfl ?_
            exact HF.out (fun o => by have := o.n; rw [HN.out] at this; omega) _ HBZ.out
          have d1 : decide (((ws.length : Int) - 9) < (n : Int)) = false := decide_eq_false (by omega)
          obtain ⟨A9, c9, hsl, hrd⟩ := mid (A := some ad) (c := c) (ws := ws) 9 n (by omega) hlc (by omega)
          have hsl : ∀ W : World, (Instr.slice 37 (.slice (some ad) ws.length c) (some (.int .i64 9)) (some (.int .i64 (9 + (n : Int)))) none).run Try.prog W = .ok (.slice A9 n c9) W := hsl
          have HSR := Lib.hid hrd
          clear hrd
          go_wp2
          go_loopw [62] (fun i wr => ∃ (j : Nat) (v : Value), j ≤ n ∧ i = .int .i64 (j : Int) ∧ RK wr w0.heap.size v (kds ws j) ∧ allK ws j = true ∧ wr.heap[w0.heap.size]? = some (.cells #[v, .int .i64 (num a4), .int .i64 (num a5), .int .i64 (num a6), .int .i64 (num a7), .int .i64 (num a1), .int .i64 (num a2), .int .i64 (num a3)] 25 (0, 0)) ∧ wr.heap[w.heap.size]? = some (.cells #[.slice none 0 0, .int .i64 0, .int .i64 0, .int .i64 0, .int .i64 0, .int .i64 0, .int .i64 0, .int .i64 0] 25 (0, 0)) ∧ Below w0.heap.size w0 wr) (fun i _ => n - (intOf i).toNat)
          case atStart => exact ⟨0, _, by omega, rfl, RK.nil _ _, rfl, HCC.out, HR5.out, HBB.out⟩
          case round =>
            obtain ⟨j, v, hj, rfl, hrk, hak, hcc, hrr, hb⟩ := hrel
            have HRK := Lib.hid hrk
            have HAK := Lib.hid hak
            have HC := Lib.hid hcc
            have HR := Lib.hid hrr
            have HB := Lib.hid hb
            have HBw := Lib.hid (HB0.out.trans (hb.mono HB0.out.size))
            have hsz := blk_lt HC.out
            have hs0 := hb.size
            clear hrk hak hcc hrr
            by_cases hlt : j < n
            · obtain ⟨ad9, rfl, hq⟩ := HSR.out wr (HW0.out.old hb.block) j hlt
              have hy := HBD.out _ (mem_getD (d := (0 : Nat)) (show 9 + j < ws.length by omega))
              have HKS : Hid (kds ws (j + 1) = kds ws j ++ [fl (ws.getD (9 + j) 0)]) := Lib.hid rfl
              have HKA : Hid (allK ws (j + 1) = (allK ws j && kP (ws.getD (9 + j) 0))) := Lib.hid rfl
              have HKN := Lib.hid (fun h => allK_no (ws := ws) (k := j) hlt h)
              obtain ⟨y, hyy⟩ : ∃ y, ws.getD (9 + j) 0 = y := ⟨_, rfl⟩
              rw [hyy] at hq hy HKS HKA HKN
              have HKP := Lib.hid (kparse_any y hy wr)
              have hlk := kds_len ws j
              obtain ⟨L, hL⟩ : ∃ L, kds ws j = L := ⟨_, rfl⟩
              rw [hL] at HRK HKS hlk
              have hLb : L.length ≤ 200 := by omega
              clear hlk
              clear hyy hb hL
              go_wp2_with fail
              refine HKP.out.mono ?_
              rintro e w1 ⟨hb1, ⟨hk1, v1, rfl, hv1⟩ | ⟨hk0, rfl⟩⟩
              · have HV1 : Hid (RI (w1.alloc (.cells #[v1] 54)) wr.heap.size v1 (fl y)) := Lib.hid (Kd.R_alloc hv1 (.cells #[v1] 54))
                have HA1 : Hid (allK ws (j + 1) = true) := Lib.hid (by rw [HKA.out, HAK.out, hk1]; rfl)
                obtain ⟨A5, c5, rfl, _, _⟩ := RI.reads (l := fl y) hv1
                have HBa := Lib.hid ((HB.out.trans (hb1.mono HB.out.size)).alloc (HB.out.trans (hb1.mono HB.out.size)).size (.cells #[.slice A5 (fl y).length c5] 54))
                have HCa := Lib.hid (blk_alloc (blk_below HC.out hb1) (.cells #[.slice A5 (fl y).length c5] 54))
                have HRa := Lib.hid (blk_alloc (blk_below HR.out hb1) (.cells #[.slice A5 (fl y).length c5] 54))
                have HRKa := Lib.hid (Kd.R_alloc (HRK.out.below hb1) (.cells #[.slice A5 (fl y).length c5] 54))
                have HM := Lib.hid (kK_M HRKa.out HB.out.size HV1.out (fun q hq => Kd.R_lt HRK.out q hq))
                obtain ⟨A6, c6, rfl, _, _⟩ := RK.reads HRK.out
                have p0 : (w1.alloc (.cells #[.slice A5 (fl y).length c5] 54)).cell? ⟨w0.heap.size, 0, none⟩ = some (.slice A6 L.length c6) := (blk_cell HCa.out 0).trans rfl
                clear hv1 hb1 hk1
                go_wp2_with (at_builtin; refine Kd.R_append (P := Try.prog) kK (w0 := w0) (W := w1.alloc (.cells #[.slice A5 (fl y).length c5] 54)) w0.heap.size rfl (.tmp 75) (.tmp 77) 22 54 (.agg #[.slice none 0 0]) 24 rfl Try.underlying22 info54 rfl (by decide) (by decide) _ L (fl y) [.slice A5 (fl y).length c5] (fun _ => True) _ rfl (congrArg (fun n => Value.slice (some ⟨n, 0, none⟩) 1 1) (size_al w1 (.cells #[.slice A5 (fl y).length c5] 54)).symm) HM.out (fun k hk => ⟨trivial, hk⟩) (fun _ _ => trivial) HRKa.out HBa.out HBa.out.size ?c1 ?_)
                try (case c1 => omega)
                intro v9 w9 hr9 hb9 hg9 hat9
                obtain ⟨A3, c3, rfl, _, _⟩ := Kd.R_reads hr9
                simp only [List.length_append, List.length_cons, List.length_nil, Nat.zero_add] at hr9 ⊢
                have HC9 := Lib.hid ((hg9.block w0.heap.size (blk_lt HCa.out) (Kd.R_ne HRKa.out HCa.out (by decide))).trans HCa.out)
                have HR9 := Lib.hid ((hg9.block w.heap.size (blk_lt HRa.out) (Kd.R_ne HRKa.out HRa.out (by decide))).trans HRa.out)
                have HRK9 : Hid (RK w9 w0.heap.size (.slice A3 (L.length + 1) c3) (kds ws (j + 1))) := Lib.hid (by rw [HKS.out]; exact hr9)
                have HB9 := Lib.hid hb9
                have r0 : w9.cell? ⟨w0.heap.size, 0, none⟩ = some (.slice A6 L.length c6) := (blk_cell HC9.out 0).trans rfl
                have r1 := blk_frozen HC9.out 0
                clear hr9 hg9 hat9 hb9 p0
                go_wp2
                go_roundw
                case rel => exact ⟨j + 1, _, by omega, by go_num, RK.set HRK9.out HC9.out 0 _, HA1.out, blk_set HC9.out 0 _, blk_far HR9.out (by show w.heap.size ≠ w0.heap.size; have := blk_lt HR0.out; omega) _, HB9.out.trans (below_of_grown (grown_set _ w0.heap.size 0 _) (Nat.le_refl _) HB9.out.size)⟩
                case measure => simp [intOf]; omega
              · have HBz := Lib.hid ((HBw.out.trans (hb1.mono HBw.out.size)).alloc (HBw.out.trans (hb1.mono HBw.out.size)).size (.cells #[.slice none 0 0] 54))
                have HRz := Lib.hid (blk_alloc (blk_below HR.out hb1) (.cells #[.slice none 0 0] 54))
                have HNO : Hid (¬ Ok ws) := Lib.hid (fun o => by have := o.k; rw [HN.out, HKN.out hk0] at this; cases this)
                clear hb1 hk0
                obtain ⟨wz, hwz, hxz, hgz⟩ := store8 HRz.out rfl none 0 0 0 0 0 0 0 0 0
                have HWZ := Lib.hid hwz
                have HXZ := Lib.hid hxz
                have HTH := Lib.hid (there8 HRz.out rfl)
                have HBZ := Lib.hid (HBz.out.trans (below_of_grown hgz (Nat.le_refl _) HBz.out.size))
                clear hwz hxz hgz
                go_wp2_with (refine store_named (P := Try.prog) rfl 25 (.tmp 2) (.tmp 73) rfl w.heap.size 0 #[.slice none 0 0, .int .i64 0, .int .i64 0, .int .i64 0, .int .i64 0, .int .i64 0, .int .i64 0, .int .i64 0] rfl rfl HTH.out info25 (one8 _ _ _ _ _ _ _ _ _ _) HWZ.out ?_)
                go_wp2
                (try simp only [Exit.inBlock, Exit.then])
                refine bodyPost_ret (results_ct rfl _ _ w.heap.size 25 _ (0, 0) _ rfl HXZ.out Try.underlying25 rfl info25) rfl ?_
                exact HF.out (HNO.out) _ HBZ.out
            · obtain rfl : j = n := by omega
              obtain ⟨A5, c5, rfl, hl5, hks⟩ := RK.reads HRK.out
              have HKS := Lib.hid hks
              have hln : 9 + j ≤ ws.length := by omega
              obtain ⟨L, hL⟩ : ∃ L, kds ws j = L := ⟨_, rfl⟩
              rw [hL] at HRK HKS HC HCF HOK hl5
              obtain ⟨p0, p1, p2, p3, p4, p5, p6, p7⟩ := cells8 HC.out
              have HMY := Lib.hid (may_any A5 c5 L (num a4) (num a5) (num a6) (num a7) (num a1) (num a2) (num a3) wr HKS.out)
              by_cases hm : mayE ⟨L, num a4, num a5, num a6, num a7, num a1, num a2, num a3⟩ = 0
              · have HOW : Hid (Ok ws) := Lib.hid ⟨by omega, HA0.out, by rw [HN.out]; exact hln, by rw [HN.out]; exact HAK.out, HCF.out.trans hm⟩
                rw [hm] at HMY
                clear hks hm hL hb
                go_wp2_with fail
                refine HMY.out.mono ?_
                rintro e w1 ⟨rfl, hb1⟩
                have HB1 := Lib.hid (HBw.out.trans (hb1.mono HBw.out.size))
                have HC1 := Lib.hid (blk_below HC.out hb1)
                have HR1 := Lib.hid (blk_below HR.out hb1)
                have HRK1 := Lib.hid (HRK.out.below hb1)
                clear hb1 p0 p1 p2 p3 p4 p5 p6 p7
                obtain ⟨p0, p1, p2, p3, p4, p5, p6, p7⟩ := cells8 HC1.out
                obtain ⟨w5, hw5, hx5, hg5⟩ := store8 HR1.out rfl A5 L.length c5 (num a4) (num a5) (num a6) (num a7) (num a1) (num a2) (num a3)
                have HW5 := Lib.hid hw5
                have HX5 := Lib.hid hx5
                have HTH := Lib.hid (there8 HR1.out rfl)
                have HK5 : Hid (Ks w5 A5 L) := Lib.hid (by
                  have h0 := Kd.R_step (Kd.R_bound HRK1.out) (fun q hq hlt => hg5.block q hlt (fun e => by obtain ⟨_, h1, _⟩ := hq; have := blk_lt HR0.out; injection e with e; omega))
                  obtain ⟨A6, c6, e6, _, h6⟩ := Kd.R_reads h0
                  injection e6 with e6 _ _
                  subst e6
                  exact ks_C h6 (Nat.le_refl _))
                have HB5 := Lib.hid (HB1.out.trans (below_of_grown hg5 (Nat.le_refl _) HB1.out.size))
                clear hw5 hx5 hg5
                go_wp2_with (refine store_named (P := Try.prog) rfl 25 (.tmp 2) (.tmp 85) rfl w.heap.size 0 #[.slice A5 L.length c5, .int .i64 (num a4), .int .i64 (num a5), .int .i64 (num a6), .int .i64 (num a7), .int .i64 (num a1), .int .i64 (num a2), .int .i64 (num a3)] rfl rfl HTH.out info25 (one8 _ _ _ _ _ _ _ _ _ _) HW5.out ?_)
                go_wp2
                (try simp only [Exit.inBlock, Exit.then])
                refine bodyPost_ret (results_ct rfl _ _ w.heap.size 25 _ (0, 0) _ rfl HX5.out Try.underlying25 rfl info25) rfl ?_
                exact HOK.out HOW.out _ A5 c5 HB5.out HK5.out hl5
              · have HNO : Hid (¬ Ok ws) := Lib.hid (fun o => hm (HCF.out.symm.trans o.m))
                obtain ⟨E, hE⟩ : ∃ E, mayE ⟨L, num a4, num a5, num a6, num a7, num a1, num a2, num a3⟩ = E := ⟨_, rfl⟩
                rw [hE] at HMY hm
                have be : (E == 0) = false := beq_eq_false_iff_ne.2 hm
                have bn : (E != 0) = true := bne_iff_ne.2 hm
                clear hks hm hE hL hb
                go_wp2_with fail
                refine HMY.out.mono ?_
                rintro e w1 ⟨rfl, hb1⟩
                have HB1 := Lib.hid (HBw.out.trans (hb1.mono HBw.out.size))
                have HR1 := Lib.hid (blk_below HR.out hb1)
                clear hb1
                obtain ⟨wz, hwz, hxz, hgz⟩ := store8 HR1.out rfl none 0 0 0 0 0 0 0 0 0
                have HWZ := Lib.hid hwz
                have HXZ := Lib.hid hxz
                have HTH := Lib.hid (there8 HR1.out rfl)
                have HBZ := Lib.hid (HB1.out.trans (below_of_grown hgz (Nat.le_refl _) HB1.out.size))
                clear hwz hxz hgz
                go_wp2_with (refine store_named (P := Try.prog) rfl 25 (.tmp 2) (.tmp 84) rfl w.heap.size 0 #[.slice none 0 0, .int .i64 0, .int .i64 0, .int .i64 0, .int .i64 0, .int .i64 0, .int .i64 0, .int .i64 0] rfl rfl HTH.out info25 (one8 _ _ _ _ _ _ _ _ _ _) HWZ.out ?_)
                go_wp2
                (try simp only [Exit.inBlock, Exit.then])
                refine bodyPost_ret (results_ct rfl _ _ w.heap.size 25 _ (0, 0) _ rfl HXZ.out Try.underlying25 rfl info25) rfl ?_
                exact HF.out (HNO.out) _ HBZ.out
  · have bn : ((a0 : Int) == 8317131967827831151) = false := beq_eq_false_iff_ne.2 (by omega)
    have bn2 : ((a0 : Int) != 8317131967827831151) = true := bne_iff_ne.2 (by omega)
    have HNS := Lib.hid hs
    clear hs
    go_enter Try.func16, Try.ntmps16
    obtain ⟨wz, hwz, hxz, hgz⟩ := store8 HR0.out rfl none 0 0 0 0 0 0 0 0 0
    have HWZ := Lib.hid hwz
    have HXZ := Lib.hid hxz
    have HTH := Lib.hid (there8 HR0.out rfl)
    have HBZ := Lib.hid (HB0.out.trans (below_of_grown hgz (Nat.le_refl _) HB0.out.size))
    clear hwz hxz hgz
    go_wp2_with (refine store_named (P := Try.prog) rfl 25 (.tmp 2) (.tmp 20) rfl w.heap.size 0 #[.slice none 0 0, .int .i64 0, .int .i64 0, .int .i64 0, .int .i64 0, .int .i64 0, .int .i64 0, .int .i64 0] rfl rfl HTH.out info25 (one8 _ _ _ _ _ _ _ _ _ _) HWZ.out ?_)
    go_wp2
    (try simp only [Exit.inBlock, Exit.then])
    refine bodyPost_ret (results_ct rfl _ _ w.heap.size 25 _ (0, 0) _ rfl HXZ.out Try.underlying25 rfl info25) rfl ?_
    exact HF.out (fun o => HNS.out (HA0.out.symm.trans o.s)) _ HBZ.out
end Go.Proofs.Ytlmlckidgfnhdaa.Pa
