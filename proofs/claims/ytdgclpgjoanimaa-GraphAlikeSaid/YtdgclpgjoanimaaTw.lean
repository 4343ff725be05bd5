/- turned, walked. -/
import Derived.Test.YtdgclpgjoanimaaTu
namespace Go.Proofs.Ytdgclpgjoanimaa.Tw
open Go.RowKit Go.ChangeShapes Go.WideShapes Go.Proofs.YtdgclpgjoanimaaW.PrintWords Go.Proofs.Ytdgclpgjoanimaa.Ba Go.Proofs.Ytdgclpgjoanimaa.Ma Go.Proofs.Ytdgclpgjoanimaa.Mb Go.Proofs.Ytdgclpgjoanimaa.Pu Go.Proofs.Ytdgclpgjoanimaa.Wa Go.Proofs.Ytdgclpgjoanimaa.To Go.Proofs.Ytdgclpgjoanimaa.Tr Go.Proofs.Ytdgclpgjoanimaa.Tp Go.Proofs.Ytdgclpgjoanimaa.Tu
set_option linter.unusedVariables false
theorem r2_form {w : World} {base : Nat} {v : Value} {l : List N2} (h : R2 w base v l) (hl : 0 < l.length) : ∃ M cap, v = .slice (some ⟨M, 0, none⟩) l.length cap ∧ base ≤ M ∧ M < w.heap.size ∧ ∃ cs, w.heap[M]? = some (.cells cs 34 (0, 0)) := by
  obtain ⟨inner, ho⟩ := Kd.R_own h
  rcases ho.2 with ⟨_, h0⟩ | ⟨g, cap, cur, e, hb, hh, _⟩
  · omega
  · exact ⟨g, cap, e, hb, blt hh, cur, hh⟩
theorem drew_grown (W : World) (row : Option Nat) : W.grownBy W.drew row := ⟨(Below.refl 0 W).drew.os, (Below.refl 0 W).drew.tape, (Below.refl 0 W).drew.output, (Below.refl 0 W).drew.size, fun _ _ _ => rfl⟩
theorem app_grown {wa wr w9 w10 : World} {T : Nat} (h1 : wa.grownBy wr (some T)) (h2 : Below wa.heap.size wr.drew w9) (h3 : w9.grownBy w10 (some T)) : wa.grownBy w10 (some T) :=
  ⟨h3.os.trans (h2.os.trans h1.os), h3.tape.trans (h2.tape.trans h1.tape), h3.output.trans (h2.output.trans h1.output), Nat.le_trans h1.size (Nat.le_trans h2.size h3.size), fun k hk hne => (h3.block k (Nat.lt_of_lt_of_le hk (Nat.le_trans h1.size h2.size)) hne).trans ((h2.block k hk).trans (h1.block k hk hne))⟩
/-- A node is set in a row of one's own. -/
theorem r2_set {W : World} {base M n cap j : Nat} {xs : List N2} (h : R2 W base (.slice (some ⟨M, 0, none⟩) n cap) xs) (hj : j < n) {x0 : Int} {v7 : Value} {fs : List V5} {cs : Array Value} (hM : W.heap[M]? = some (.cells cs 34 (0, 0))) (h5 : R5 W base v7 fs) :
    R2 ((W.setCell ⟨M, j * 2, none⟩ (.int .i64 x0)).setCell ⟨M, j * 2 + 1, none⟩ v7) base (.slice (some ⟨M, 0, none⟩) n cap) (xs.set j ⟨x0, fs⟩) ∧ W.grownBy ((W.setCell ⟨M, j * 2, none⟩ (.int .i64 x0)).setCell ⟨M, j * 2 + 1, none⟩ v7) (some M) := by
  obtain ⟨hn, hc, hC⟩ := Kd.R_reads' h
  obtain ⟨ad, c, e, hcl, hK, hcc⟩ := Kd.C_get hC zN (j : Int) (by omega) (by omega)
  injection e with e
  subst e
  rw [Int.toNat_natCast] at hcc
  have hcc2 : ∀ i u, c[i]? = some u → W.cell? ⟨M, (j : Int).toNat * k2.sz + i, none⟩ = some u := fun i u hu => by
    have := hcc i u hu
    rw [Int.toNat_natCast]
    rw [show (Addr.mk M 0 none).add (j * k2.sz + i) = ⟨M, j * k2.sz + i, none⟩ by unfold Addr.add; split <;> simp_all] at this
    exact this
  have hMM : k2.M W base (fun k => k ≠ M) ⟨x0, fs⟩ (c.take 0 ++ [.int .i64 x0, v7] ++ c.drop (0 + [Value.int .i64 x0, v7].length)) := by
    have hd : c.drop (0 + [Value.int .i64 x0, v7].length) = [] := List.drop_eq_nil_of_le (by rw [hcl]; exact Nat.le_refl _)
    rw [hd, List.append_nil]
    refine ⟨[_], [_], rfl, rfl, _, rfl, Kd.R_mono (Kd.R_bound h5) (fun q hq e => ?_)⟩
    obtain ⟨_, _, _, qq, hqq, cells, hcell⟩ := hq
    rw [e, hM] at hcell
    injection hcell with hcell
    injection hcell with _ hcell
    rw [← hcell] at hqq
    exact absurd hqq (by decide)
  have := Kd.R_seg h (j : Int) (by omega) (by omega) hcl hcc2 (j := 0) (seg := [.int .i64 x0, v7]) (by show 0 + 2 ≤ 2; omega) hMM (fun k hk => ⟨trivial, hk⟩)
  rw [Int.toNat_natCast] at this
  exact this
theorem box5_set {w : World} {g : Nat} {x : V5} (h : Bx5 w g x) (y : V5) : ∃ w9, ((((w.setCell ⟨g, 0, none⟩ (.int .i64 y.kd)).setCell ⟨g, 1, none⟩ (.int .i64 y.n)).setCell ⟨g, 2, none⟩ (.int .u64 y.re)).setCell ⟨g, 3, none⟩ (.int .u64 y.im)).setCell ⟨g, 4, none⟩ (.int .i64 y.ref) = w9 ∧ Bx5 w9 g y ∧ w.grownBy w9 (some g) := by
  refine ⟨_, rfl, ?_, grown_trans (grown_trans (grown_trans (grown_trans (grown_set w g 0 _) (grown_set _ g 1 _)) (grown_set _ g 2 _)) (grown_set _ g 3 _)) (grown_set _ g 4 _)⟩
  exact blk_set (blk_set (blk_set (blk_set (blk_set h 0 (.int .i64 y.kd)) 1 (.int .i64 y.n)) 2 (.int .u64 y.re)) 3 (.int .u64 y.im)) 4 (.int .i64 y.ref)
set_option maxHeartbeats 16000000 in
set_option maxRecDepth 100000 in
theorem turned_any (v : Value) (g : G3) (b : Nat) (w : World) (h : GAt w v g) (hz : Sz g) (hm : mayG g = true) (hb : b < g.ns.length) :
    Calls Try.prog 17 #[v, .int .i64 (b : Int)] w (fun e w' => ∃ v', e = .returned v' ∧ GAt w' v' (turnG g b) ∧ Below w.heap.size w w') := by
  have HG := Lib.hid h
  obtain ⟨AN, cN, AR, cR, AW, cW, rfl, _, _, _, hN, hR, hW⟩ := h
  have HN := Lib.hid hN
  have HR := Lib.hid hR
  have HW := Lib.hid hW
  have HZ := Lib.hid hz.f
  have z1 := hz.r
  have z2 := hz.s
  have hz25 : ∀ w, (zeroValue 25).run Try.prog w = .ok (.agg #[.slice none 0 0, .slice none 0 0, .slice none 0 0]) w := fun w => by kernel_rfl
  have hz34 : ∀ w, (zeroValue 34).run Try.prog w = .ok (.agg #[.int .i64 0, .slice none 0 0]) w := fun w => by kernel_rfl
  have hn := Re.may_len hm
  have HMF := Lib.hid (may_fields hm)
  have HMR := Lib.hid (may_roots hm)
  have HNLS := Lib.hid (fun k hk => NL_step g (k := k) hb hk)
  have HNL0 := Lib.hid (NL_zero g b hb)
  have HNLL := Lib.hid (NL_len g b)
  have HNLA := Lib.hid (NL_all g b hb)
  obtain ⟨nN, hnN⟩ : ∃ n, g.ns.length = n := ⟨_, rfl⟩
  have HNL := Lib.hid hnN
  obtain ⟨nR, hnR⟩ : ∃ n, g.rs.length = n := ⟨_, rfl⟩
  have HRL := Lib.hid hnR
  obtain ⟨nW, hnW⟩ : ∃ n, g.ws.length = n := ⟨_, rfl⟩
  have HWL := Lib.hid hnW
  rw [hnN, hnR, hnW] at HG ⊢
  rw [hnN] at hb hn HNLS HNL0 HNLL HNLA HMF HMR
  rw [hnR] at z1
  rw [hnW] at z2
  obtain ⟨w0, hw0⟩ : ∃ w0, (((w.alloc (.cells #[.slice AN nN cN, .slice AR nR cR, .slice AW nW cW] 25)).alloc (.cells #[.int .i64 (b : Int)] 3)).alloc (.cells #[.slice none 0 0, .slice none 0 0, .slice none 0 0] 25)).alloc (.cells #[.int .i64 (nN : Int)] 3) = w0 := ⟨_, rfl⟩
  have hs0 : w0.heap.size = w.heap.size + 1 + 1 + 1 + 1 := by rw [← hw0, size_al, size_al, size_al, size_al]
  have HB0 : Hid (Below w.heap.size w w0) := Lib.hid (by rw [← hw0]; exact ((((Below.refl _ _).alloc (Nat.le_refl _) _).alloc (by simp) _).alloc (by simp; omega) _).alloc (by simp; omega) _)
  have HXG : Hid (w0.heap[w.heap.size]? = some (.cells #[.slice AN nN cN, .slice AR nR cR, .slice AW nW cW] 25 (0, 0))) := Lib.hid (by
    rw [← hw0]
    exact ((((Below.refl (w.heap.size + 1) _).alloc (by simp) _).alloc (by simp) _).alloc (by simp) _).block w.heap.size (by omega) |>.trans (heap_alloc_new w _))
  have HXB : Hid (w0.heap[w.heap.size + 1]? = some (.cells #[.int .i64 (b : Int)] 3 (0, 0))) := Lib.hid (by
    rw [← hw0, ← size_al w (.cells #[.slice AN nN cN, .slice AR nR cR, .slice AW nW cW] 25)]
    exact (((Below.refl ((w.alloc (.cells #[.slice AN nN cN, .slice AR nR cR, .slice AW nW cW] 25)).heap.size + 1) _).alloc (by simp) _).alloc (by simp) _).block _ (by omega) |>.trans (heap_alloc_new _ _))
  have HXR : Hid (w0.heap[w.heap.size + 1 + 1]? = some (.cells #[.slice none 0 0, .slice none 0 0, .slice none 0 0] 25 (0, 0))) := Lib.hid (by
    rw [← hw0]
    obtain ⟨wa, hwa⟩ : ∃ wa, (w.alloc (.cells #[.slice AN nN cN, .slice AR nR cR, .slice AW nW cW] 25)).alloc (.cells #[.int .i64 (b : Int)] 3) = wa := ⟨_, rfl⟩
    have hwas : w.heap.size + 1 + 1 = wa.heap.size := by rw [← hwa, size_al, size_al]
    rw [hwa, hwas]
    exact ((Below.refl (wa.heap.size + 1) _).alloc (by simp) _).block _ (by omega) |>.trans (heap_alloc_new wa _))
  have HXN : Hid (w0.heap[w.heap.size + 1 + 1 + 1]? = some (.cells #[.int .i64 (nN : Int)] 3 (0, 0))) := Lib.hid (by
    rw [← hw0]
    obtain ⟨wa, hwa⟩ : ∃ wa, ((w.alloc (.cells #[.slice AN nN cN, .slice AR nR cR, .slice AW nW cW] 25)).alloc (.cells #[.int .i64 (b : Int)] 3)).alloc (.cells #[.slice none 0 0, .slice none 0 0, .slice none 0 0] 25) = wa := ⟨_, rfl⟩
    have hwas : w.heap.size + 1 + 1 + 1 = wa.heap.size := by rw [← hwa, size_al, size_al, size_al]
    rw [hwa, hwas]
    exact heap_alloc_new wa _)
  have hcn := cell_of_one HXN.out
  have hzero : k2.M w0 w.heap.size (fun _ => False) zN zNd.cells.toList := ⟨[_], [_], rfl, rfl, _, rfl, Kd.R_nil _ _ _ _ _⟩
  have HZE := Lib.hid hzero
  have HW0 := Lib.hid hw0
  clear hN hR hW hnN hnR hnW hzero
  have hs0' : w.heap.size ≤ w0.heap.size := by omega
  go_enter Try.func17, Try.ntmps17
  go_wp2_with (refine Kd.R_make (P := Try.prog) k2 (w0 := w) (W := w0) w.heap.size 34 rfl rfl 22 (.tmp 21) (.tmp 21) rfl (nN : Int) rfl rfl Try.underlying22 zNd 32 infoN rfl (by decide) (by decide) zN (ok := fun _ => True) (okp := fun _ => False) HZE.out (fun _ h => h.elim) trivial (by omega) (by omega) HB0.out hs0' ?_)
  intro v1 w1 hr1 hb1 hg1 q hq1 hq2
  have hr1' : R2 w1 w.heap.size v1 (NL g b 0) := by rw [HNL0.out]; exact hr1
  obtain ⟨M, cap, rfl, hM1, hM2, hM3⟩ := r2_form hr1' (by rw [HNLL.out]; omega)
  rw [HNLL.out] at hr1' hr1 hq1 ⊢
  have hM4 : w0.heap.size ≤ M := by
    simp only [Value.ownBlock] at hq1
    injection hq1 with hq1
    omega
  have HR1 := Lib.hid hr1'
  have HB1 : Hid (Below w.heap.size w w1) := Lib.hid hb1
  have HXG1 := Lib.hid ((hg1.block _ (blt HXG.out) (by simp)).trans HXG.out)
  have HXB1 := Lib.hid ((hg1.block _ (blt HXB.out) (by simp)).trans HXB.out)
  have HXR1 := Lib.hid ((hg1.block _ (blt HXR.out) (by simp)).trans HXR.out)
  have HXN1 := Lib.hid ((hg1.block _ (blt HXN.out) (by simp)).trans HXN.out)
  obtain ⟨g0, g1, g2⟩ := Bx3_one HXG1.out
  obtain ⟨w2, hw2⟩ : ∃ w2, w1.alloc (.cells #[.slice (some ⟨M, 0, none⟩) nN cap, .slice none 0 0, .slice none 0 0] 25) = w2 := ⟨_, rfl⟩
  have hba : Below w1.heap.size w1 w2 := by rw [← hw2]; exact (Below.refl _ _).alloc (Nat.le_refl _) _
  have HB2 : Hid (Below w.heap.size w w2) := Lib.hid (HB1.out.trans (hba.mono HB1.out.size))
  have HXG2 := Lib.hid ((hba.block _ (blt HXG1.out)).trans HXG1.out)
  have HXB2 := Lib.hid ((hba.block _ (blt HXB1.out)).trans HXB1.out)
  have HXR2 := Lib.hid ((hba.block _ (blt HXR1.out)).trans HXR1.out)
  have HXN2 := Lib.hid ((hba.block _ (blt HXN1.out)).trans HXN1.out)
  have HR2 := Lib.hid (HR1.out.below hba)
  have HT2 : Hid (w2.heap[w1.heap.size]? = some (.cells #[.slice (some ⟨M, 0, none⟩) nN cap, .slice none 0 0, .slice none 0 0] 25 (0, 0))) := Lib.hid (by rw [← hw2]; exact heap_alloc_new w1 _)
  have HW2 := Lib.hid hw2
  have hlt1 : w.heap.size < w1.heap.size := blt HXG1.out
  obtain ⟨g0, g1, g2⟩ := Bx3_one HXG2.out
  clear hr1 hr1' hb1 hg1 hq1 hba hcn hw2
  go_wp2
  try rw [HW2.out]
  go_loopw [27] (fun i wr => ∃ k : Nat, k ≤ nN ∧ i = .int .i64 (k : Int) ∧ R2 wr w.heap.size (.slice (some ⟨M, 0, none⟩) nN cap) (NL g b k) ∧ w2.grownBy wr (some M)) (fun i _ => nN - (intOf i).toNat)
  case atStart => exact ⟨0, Nat.zero_le _, rfl, HR2.out, ⟨rfl, rfl, rfl, Nat.le_refl _, fun _ _ _ => rfl⟩⟩
  case round =>
    obtain ⟨k, hk, rfl, hr, hg⟩ := hrel
    have HRK := Lib.hid hr
    have HGK := Lib.hid hg
    have hgs := hg.size
    have HBW : Hid (Below w.heap.size w wr) := Lib.hid (HB2.out.trans (Tm.below_of_grown hg hM1 HB2.out.size))
    have HXG3 := Lib.hid ((hg.block _ (blt HXG2.out) (fun e => by injection e with e; have := HB0.out.size; omega)).trans HXG2.out)
    have HXB3 := Lib.hid ((hg.block _ (blt HXB2.out) (fun e => by injection e with e; omega)).trans HXB2.out)
    have HXN3 := Lib.hid ((hg.block _ (blt HXN2.out) (fun e => by injection e with e; omega)).trans HXN2.out)
    have HT3 := Lib.hid ((hg.block _ (blt HT2.out) (fun e => by injection e with e; omega)).trans HT2.out)
    clear hr hg
    by_cases hlt : k < nN
    · obtain ⟨ad, rfl, y0, A7, c7, y1, _, hfv⟩ := HN.out k (by rw [HNL.out]; exact hlt)
      have y0 := cell_old y0 HBW.out.block
      have y1 := cell_old y1 HBW.out.block
      have hmem := mem_getD (d := zN) (show k < g.ns.length by rw [HNL.out]; exact hlt)
      have hzl := HZ.out _ hmem
      have HFF := Lib.hid (HMF.out _ hmem)
      have HTN : Hid (tnode g b (k : Int) = ⟨(g.ns.getD k zN).kd, (g.ns.getD k zN).fs.map (tval nN b)⟩) := Lib.hid (by unfold tnode nd; rw [Int.toNat_natCast, HNL.out])
      obtain ⟨xn, hxn⟩ : ∃ x, g.ns.getD k zN = x := ⟨_, rfl⟩
      rw [hxn] at y0 y1 hfv hzl HTN HFF
      obtain ⟨x0, f0⟩ := xn
      dsimp only at y0 y1 hfv hzl HTN HFF
      have HFV := Lib.hid hfv
      have HSTEP := Lib.hid (HNLS.out k hlt)
      rw [HTN.out] at HSTEP
      obtain ⟨ht0, ht1⟩ := tat_in (n := nN) (x := (k : Int)) (isB_iff.2 ⟨by omega, by omega⟩) hb
      obtain ⟨ht2, ht3⟩ := isB_iff.1 ht0
      obtain ⟨jt, hjt⟩ : ∃ j : Nat, tat nN b (k : Int) = (j : Int) := ⟨(tat nN b (k : Int)).toNat, by omega⟩
      have hjl : jt < nN := by omega
      have HAT : Hid (∀ W : World, W.heap[w.heap.size + 1]? = some (.cells #[.int .i64 (b : Int)] 3 (0, 0)) → W.heap[w.heap.size + 1 + 1 + 1]? = some (.cells #[.int .i64 (nN : Int)] 3 (0, 0)) → Calls Try.prog 30 #[.int .i64 (k : Int), .pointer (some ⟨w.heap.size + 1, 0, none⟩), .pointer (some ⟨w.heap.size + 1 + 1 + 1, 0, none⟩)] W fun e w' => e = .returned (.int .i64 (jt : Int)) ∧ W = w') := Lib.hid (fun W h1 h2 => by rw [← hjt]; exact at_any _ _ nN b (k : Int) W h1 h2 (by omega) hb (by omega))
      rw [hjt, Int.toNat_natCast] at HSTEP
      obtain ⟨wo, rfl⟩ : ∃ wo : World, wo = wr := ⟨_, rfl⟩
      obtain ⟨ws, hws⟩ : ∃ ws, (wo.alloc (.cells #[.int .i64 x0, .slice A7 f0.length c7] 34)).alloc (.cells #[.int .i64 x0, .slice none 0 0] 34) = ws := ⟨_, rfl⟩
      have HBS : Hid (Below wo.heap.size wo ws) := Lib.hid (by rw [← hws]; exact ((Below.refl _ _).alloc (Nat.le_refl _) _).alloc (by simp) _)
      have HXY : Hid (ws.heap[wo.heap.size + 1]? = some (.cells #[.int .i64 x0, .slice none 0 0] 34 (0, 0))) := Lib.hid (by rw [← hws, ← size_al wo (.cells #[.int .i64 x0, .slice A7 f0.length c7] 34)]; exact heap_alloc_new _ _)
      have HWS := Lib.hid hws
      have hwk : w.heap.size < wo.heap.size := by have := blt HXG3.out; omega
      clear hmem hxn hfv ht0 ht1 ht2 ht3 hjt hws HTN
      go_wp2
      rw [HWS.out]
      go_loopw [38] (fun i wr => ∃ (u : Nat) (v7 : Value), u ≤ f0.length ∧ i = .int .i64 (u : Int) ∧ wr.heap[wo.heap.size + 1]? = some (.cells #[.int .i64 x0, v7] 34 (0, 0)) ∧ R5 wr wo.heap.size v7 ((f0.take u).map (tval nN b)) ∧ Below wo.heap.size wo wr) (fun i _ => f0.length - (intOf i).toNat)
      case atStart => exact ⟨0, _, Nat.zero_le _, rfl, HXY.out, R5.nil _ _, HBS.out⟩
      case round =>
        obtain ⟨u, v7, hu, rfl, hX, hR5, hb2⟩ := hrel
        obtain ⟨L7, hL7⟩ : ∃ L, (f0.take u).map (tval nN b) = L := ⟨_, rfl⟩
        have hL7l : L7.length ≤ 1000 := by rw [← hL7]; simp; omega
        rw [hL7] at hR5
        obtain ⟨A9, c9, rfl, _, _⟩ := hR5.reads
        obtain ⟨x1, x2⟩ := two_cells hX
        have fz1 := blk_frozen hX 1
        have HX := Lib.hid hX
        have HR5 := Lib.hid hR5
        have HB5 := Lib.hid hb2
        have HL7 := Lib.hid hL7
        have hbs7 := hb2.size
        clear hX hR5 hL7 y0 y1
        by_cases hlt2 : u < f0.length
        · obtain ⟨ad3, rfl, hc⟩ := (HFV.out.old (HBW.out.trans (hb2.mono HBW.out.size)).block) u hlt2
          have HEE : Hid ((f0.take (u + 1)).map (tval nN b) = L7 ++ [tval nN b (f0.getD u z5)]) := Lib.hid (by rw [take_snoc f0 z5 u hlt2, List.map_append, HL7.out]; rfl)
          have HK3 := Lib.hid (HFF.out _ (mem_getD (d := z5) hlt2))
          obtain ⟨x, hx⟩ : ∃ x, f0.getD u z5 = x := ⟨_, rfl⟩
          rw [hx] at hc HEE HK3
          clear hx
          obtain ⟨p0, p1, p2, p3, p4⟩ := hc
          obtain ⟨e0, e1, e2, e3, e4⟩ := x
          dsimp only at p0 p1 p2 p3 p4 HK3
          have hby := (Below.refl wr.heap.size wr).alloc (Nat.le_refl _) (.cells #[.int .i64 e0, .int .i64 e1, .int .u64 e2, .int .u64 e3, .int .i64 e4] 37)
          have HYB : Hid (Bx5 (wr.alloc (.cells #[.int .i64 e0, .int .i64 e1, .int .u64 e2, .int .u64 e3, .int .i64 e4] 37)) wr.heap.size ⟨e0, e1, e2, e3, e4⟩) := Lib.hid (heap_alloc_new wr _)
          have HPL := Lib.hid (plain_any ⟨e0, e1, e2, e3, e4⟩ (wr.alloc (.cells #[.int .i64 e0, .int .i64 e1, .int .u64 e2, .int .u64 e3, .int .i64 e4] 37)))
          unfold PlainPost agg5 at HPL
          have HBY := Lib.hid hby
          clear hby hb2
          by_cases h3 : e0 = 3
          · subst h3
            have hpl : plainV ⟨3, e1, e2, e3, e4⟩ = ⟨3, 0, 0, 0, e4⟩ := rfl
            rw [hpl] at HPL
            dsimp only at HPL
            obtain ⟨hr0, hr1⟩ := HK3.out rfl
            obtain ⟨tr, htr⟩ : ∃ t, tat nN b e4 = t := ⟨_, rfl⟩
            have HA4 : Hid (∀ W : World, W.heap[w.heap.size + 1]? = some (.cells #[.int .i64 (b : Int)] 3 (0, 0)) → W.heap[w.heap.size + 1 + 1 + 1]? = some (.cells #[.int .i64 (nN : Int)] 3 (0, 0)) → Calls Try.prog 30 #[.int .i64 e4, .pointer (some ⟨w.heap.size + 1, 0, none⟩), .pointer (some ⟨w.heap.size + 1 + 1 + 1, 0, none⟩)] W fun e w' => e = .returned (.int .i64 tr) ∧ W = w') := Lib.hid (fun W h1 h2 => by rw [← htr]; exact at_any _ _ nN b e4 W h1 h2 hr1 hb (by omega))
            have HE : Hid ((f0.take (u + 1)).map (tval nN b) = L7 ++ [⟨3, 0, 0, 0, tr⟩]) := Lib.hid (by rw [HEE.out, ← htr]; rfl)
            clear hpl HEE htr
            go_wp2_with fail
            refine HPL.out.mono ?_
            rintro e w6 ⟨rfl, hb6⟩
            have hY6 := HYB.out.below hb6 (blt HYB.out)
            obtain ⟨i0, i1, i2, i3, i4⟩ := Bx5.cells hY6
            have q0 := blk_frozen hY6 0
            have q1 := blk_frozen hY6 1
            have q2 := blk_frozen hY6 2
            have q3 := blk_frozen hY6 3
            have q4 := blk_frozen hY6 4
            obtain ⟨w7, hw7, hY7, hg7⟩ := box5_set hY6 ⟨3, 0, 0, 0, e4⟩
            dsimp only at hw7
            have HW7 : Hid (Below wr.heap.size wr w7) := Lib.hid ((HBY.out.trans (hb6.mono (by rw [size_al]; omega))).trans (Tm.below_of_grown hg7 (Nat.le_refl _) (by have := hb6.size; rw [size_al] at this; omega)))
            obtain ⟨j0, j1, j2, j3, j4⟩ := Bx5.cells hY7
            have fj := blk_frozen hY7 4
            have HY7 := Lib.hid hY7
            have HH1 := Lib.hid ((HW7.out.block _ (by have := blt HXB3.out; omega)).trans ((HB5.out.block _ (blt HXB3.out)).trans HXB3.out))
            have HH2 := Lib.hid ((HW7.out.block _ (by have := blt HXN3.out; omega)).trans ((HB5.out.block _ (blt HXN3.out)).trans HXN3.out))
            clear hb6 hY6 hY7 hg7
            go_wp2_with fail
            refine (HA4.out _ HH1.out HH2.out).mono ?_
            rintro e w77 ⟨rfl, rfl⟩
            obtain ⟨w8, hw8⟩ : ∃ w8, w7.setCell ⟨wr.heap.size, 4, none⟩ (.int .i64 tr) = w8 := ⟨_, rfl⟩
            have HY8 : Hid (Bx5 w8 wr.heap.size ⟨3, 0, 0, 0, tr⟩) := Lib.hid (by rw [← hw8]; exact blk_set HY7.out 4 _)
            have HW8 : Hid (Below wr.heap.size wr w8) := Lib.hid (by rw [← hw8]; exact HW7.out.trans (Tm.below_of_grown (grown_set _ _ _ _) (Nat.le_refl _) HW7.out.size))
            obtain ⟨m0, m1, m2, m3, m4⟩ := Bx5.cells HY8.out
            clear i0 i1 i2 i3 i4 q0 q1 q2 q3 q4 hw7
            have HXX8 := Lib.hid ((HW8.out.block _ (blt HX.out)).trans HX.out)
            have HR8 := Lib.hid (HR5.out.below HW8.out)
            have HBB8 := Lib.hid (HB5.out.trans (HW8.out.mono hbs7))
            obtain ⟨_, s6⟩ := two_cells HXX8.out
            have hs8 : wo.heap.size ≤ w8.heap.size := HBB8.out.size
            go_wp2_with (at_builtin; refine Kd.R_append (P := Try.prog) k5 (w0 := wo) (W := w8) wo.heap.size rfl (.tmp 53) (.tmp 55) 32 37 zV 40 rfl Try.underlying32 info5 rfl (by decide) (by decide) _ L7 ⟨3, 0, 0, 0, tr⟩ [.int .i64 3, .int .i64 0, .int .u64 0, .int .u64 0, .int .i64 tr] (fun _ => True) (fun _ => False) rfl rfl (k5_M _ _ _ _) (fun _ h => h.elim) (fun _ _ => trivial) HR8.out HBB8.out hs8 ?c1 ?_)
            case c1 => omega
            intro v9 w9 hr9 hb9 hg9 hat9
            obtain ⟨A6, c6, rfl, _, _⟩ := Kd.R_reads hr9
            simp only [List.length_append, List.length_cons, List.length_nil, Nat.zero_add] at hr9
            have hX9 := (hg9.block (wo.heap.size + 1) (blt HXX8.out) (fun e => R5.ne HR8.out HXX8.out (by decide) e.symm)).trans HXX8.out
            obtain ⟨_, o9⟩ := two_cells hX9
            have f9 := blk_frozen hX9 1
            have HR9 : Hid (R5 (w9.setCell ⟨wo.heap.size + 1, 1, none⟩ (.slice A6 (L7.length + 1) c6)) wo.heap.size (.slice A6 (L7.length + 1) c6) ((f0.take (u + 1)).map (tval nN b))) := Lib.hid (by rw [HE.out]; exact Kd.R_set hr9 hX9 (by decide) 1 _)
            have HXF : Hid ((w9.setCell ⟨wo.heap.size + 1, 1, none⟩ (.slice A6 (L7.length + 1) c6)).heap[wo.heap.size + 1]? = some (.cells #[.int .i64 x0, .slice A6 (L7.length + 1) c6] 34 (0, 0))) := Lib.hid (blk_set hX9 1 _)
            have HBF := Lib.hid (hb9.trans (Tm.below_of_grown (grown_set w9 (wo.heap.size + 1) 1 (.slice A6 (L7.length + 1) c6)) (by omega) hb9.size))
            clear hr9 hb9 hg9 hat9 hX9
            go_wp2
            go_roundw
            case rel => exact ⟨u + 1, _, by omega, by go_num, HXF.out, HR9.out, HBF.out⟩
            case measure => simp [intOf]; omega
          · obtain ⟨⟨t0, t1, t2, t3, t4⟩, hy⟩ : ∃ y, plainV ⟨e0, e1, e2, e3, e4⟩ = y := ⟨_, rfl⟩
            have ht0 : t0 ≠ 3 := by
              have := congrArg V5.kd hy
              unfold plainV at this
              dsimp only at this
              intro e
              subst e
              split at this
              · cases this
              · split at this
                · cases this
                · first
                  | (split at this <;> simp_all)
                  | simp_all
            rw [hy] at HPL
            dsimp only at HPL
            have HE : Hid ((f0.take (u + 1)).map (tval nN b) = L7 ++ [⟨t0, t1, t2, t3, t4⟩]) := Lib.hid (by rw [HEE.out, ← hy]; unfold tval; rw [if_neg h3])
            have b3 : (t0 == 3) = false := by rw [beq_eq_false_iff_ne]; exact ht0
            clear HEE hy h3 ht0
            go_wp2_with fail
            refine HPL.out.mono ?_
            rintro e w6 ⟨rfl, hb6⟩
            have hY6 := HYB.out.below hb6 (blt HYB.out)
            obtain ⟨i0, i1, i2, i3, i4⟩ := Bx5.cells hY6
            have q0 := blk_frozen hY6 0
            have q1 := blk_frozen hY6 1
            have q2 := blk_frozen hY6 2
            have q3 := blk_frozen hY6 3
            have q4 := blk_frozen hY6 4
            obtain ⟨w7, hw7, hY7, hg7⟩ := box5_set hY6 ⟨t0, t1, t2, t3, t4⟩
            dsimp only at hw7
            have HW8 : Hid (Below wr.heap.size wr w7) := Lib.hid ((HBY.out.trans (hb6.mono (by rw [size_al]; omega))).trans (Tm.below_of_grown hg7 (Nat.le_refl _) (by have := hb6.size; rw [size_al] at this; omega)))
            obtain ⟨j0, j1, j2, j3, j4⟩ := Bx5.cells hY7
            clear hb6 hY6 hY7 hg7
            have HXX8 := Lib.hid ((HW8.out.block _ (blt HX.out)).trans HX.out)
            have HR8 := Lib.hid (HR5.out.below HW8.out)
            have HBB8 := Lib.hid (HB5.out.trans (HW8.out.mono hbs7))
            obtain ⟨_, s6⟩ := two_cells HXX8.out
            have hs8 : wo.heap.size ≤ w7.heap.size := HBB8.out.size
            go_wp2_with (at_builtin; refine Kd.R_append (P := Try.prog) k5 (w0 := wo) (W := w7) wo.heap.size rfl (.tmp 53) (.tmp 55) 32 37 zV 40 rfl Try.underlying32 info5 rfl (by decide) (by decide) _ L7 ⟨t0, t1, t2, t3, t4⟩ [.int .i64 t0, .int .i64 t1, .int .u64 t2, .int .u64 t3, .int .i64 t4] (fun _ => True) (fun _ => False) rfl rfl (k5_M _ _ _ _) (fun _ h => h.elim) (fun _ _ => trivial) HR8.out HBB8.out hs8 ?c1 ?_)
            case c1 => omega
            intro v9 w9 hr9 hb9 hg9 hat9
            obtain ⟨A6, c6, rfl, _, _⟩ := Kd.R_reads hr9
            simp only [List.length_append, List.length_cons, List.length_nil, Nat.zero_add] at hr9
            have hX9 := (hg9.block (wo.heap.size + 1) (blt HXX8.out) (fun e => R5.ne HR8.out HXX8.out (by decide) e.symm)).trans HXX8.out
            obtain ⟨_, o9⟩ := two_cells hX9
            have f9 := blk_frozen hX9 1
            have HR9 : Hid (R5 (w9.setCell ⟨wo.heap.size + 1, 1, none⟩ (.slice A6 (L7.length + 1) c6)) wo.heap.size (.slice A6 (L7.length + 1) c6) ((f0.take (u + 1)).map (tval nN b))) := Lib.hid (by rw [HE.out]; exact Kd.R_set hr9 hX9 (by decide) 1 _)
            have HXF : Hid ((w9.setCell ⟨wo.heap.size + 1, 1, none⟩ (.slice A6 (L7.length + 1) c6)).heap[wo.heap.size + 1]? = some (.cells #[.int .i64 x0, .slice A6 (L7.length + 1) c6] 34 (0, 0))) := Lib.hid (blk_set hX9 1 _)
            have HBF := Lib.hid (hb9.trans (Tm.below_of_grown (grown_set w9 (wo.heap.size + 1) 1 (.slice A6 (L7.length + 1) c6)) (by omega) hb9.size))
            clear hr9 hb9 hg9 hat9 hX9
            go_wp2
            go_roundw
            case rel => exact ⟨u + 1, _, by omega, by go_num, HXF.out, HR9.out, HBF.out⟩
            case measure => simp [intOf]; omega
        · obtain rfl : f0.length = u := by omega
          have hL7e := HL7.out
          rw [List.take_length] at hL7e
          rw [hL7e] at HSTEP
          have HRW := Lib.hid (HRK.out.below hb2)
          obtain ⟨csM, hcsM⟩ := own_typed (Kd.R_own HRW.out).choose_spec M (by simp [Value.ownBlock])
          have hnv := Tm.nv_stable HRW.out (fun _ _ _ => rfl)
          obtain ⟨ad9, e9, n0, A10, c10, n1, _, _⟩ := hnv jt (by rw [HNLL.out]; exact hjl)
          injection e9 with e9
          subst e9
          rw [show (Addr.mk M 0 none).add (jt * 2) = ⟨M, jt * 2, none⟩ by unfold Addr.add; split <;> simp_all] at n0 n1
          dsimp only at n1
          have nf0 := blk_frozen hcsM (jt * 2)
          have nf1 := blk_frozen hcsM (jt * 2 + 1)
          have HCM := Lib.hid hcsM
          have HR5b := Lib.hid (Kd.R_lower HR5.out HBW.out.size)
          have hh1 := (hb2.block _ (blt HXB3.out)).trans HXB3.out
          have hh2 := (hb2.block _ (blt HXN3.out)).trans HXN3.out
          have HH1 := Lib.hid hh1
          have HH2 := Lib.hid hh2
          have ht3 := (hb2.block _ (blt HT3.out)).trans HT3.out
          obtain ⟨tc0, _, _⟩ := Bx3_one ht3
          have i0 : (0 : Int) ≤ (jt : Int) := by omega
          have i1 : (jt : Int) < (nN : Int) := by omega
          have HSET := Lib.hid (r2_set HRW.out hjl (x0 := x0) HCM.out HR5b.out)
          have HGW : Hid (wo.grownBy wr (some M)) := Lib.hid ⟨hb2.os, hb2.tape, hb2.output, hb2.size, fun q hq _ => hb2.block q hq⟩
          clear hb2 hcsM hnv hh1 hh2 ht3
          go_wp2
          go_region_law (first | (go_simp; go_at_call 30; refine (HAT.out wr.drew HH1.out HH2.out).mono ?_; rintro e w6 ⟨rfl, rfl⟩))
          all_goals
            have hsr := HSET.out.1.below (Below.refl _ _).drew
            rw [← HSTEP.out] at hsr
            have HSR := Lib.hid hsr
            clear hsr
            have HSG := Lib.hid (grown_trans HGK.out (grown_trans HGW.out (grown_trans HSET.out.2 (drew_grown _ _))))
            go_wp2
            go_roundw
            case rel => exact ⟨k + 1, by omega, by go_num, HSR.out, HSG.out⟩
            case measure => simp [intOf]; omega
    · obtain rfl : nN = k := by omega
      have HNS := Lib.hid HRK.out
      rw [HNLA.out] at HNS
      obtain ⟨wa, rfl⟩ : ∃ wa : World, wa = wr := ⟨_, rfl⟩
      obtain ⟨u0, u1, u2⟩ := Bx3_one HXG3.out
      have HXR3 := Lib.hid ((HGK.out.block _ (blt HXR2.out) (fun e => by injection e with e; omega)).trans HXR2.out)
      have HRSW := Lib.hid (HR.out.below HBW.out.block)
      have HAT : Hid (∀ (x : Int) (W : World), x < (nN : Int) → W.heap[w.heap.size + 1]? = some (.cells #[.int .i64 (b : Int)] 3 (0, 0)) → W.heap[w.heap.size + 1 + 1 + 1]? = some (.cells #[.int .i64 (nN : Int)] 3 (0, 0)) → Calls Try.prog 30 #[.int .i64 x, .pointer (some ⟨w.heap.size + 1, 0, none⟩), .pointer (some ⟨w.heap.size + 1 + 1 + 1, 0, none⟩)] W fun e w' => e = .returned (.int .i64 (tat nN b x)) ∧ W = w') := Lib.hid (fun x W hx h1 h2 => at_any _ _ nN b x W h1 h2 hx hb (by omega))
      have hlt2 : w.heap.size < w1.heap.size := hlt1
      have hT1 : w.heap.size + 1 + 1 + 1 < w1.heap.size := blt HXN1.out
      have hT2 : w1.heap.size < wa.heap.size := blt HT3.out
      clear g0 g1 g2
      go_wp2
      go_loopw [70] (fun i wr => ∃ (k : Nat) (vr : Value), k ≤ nR ∧ i = .int .i64 (k : Int) ∧ wr.heap[w1.heap.size]? = some (.cells #[.slice (some ⟨M, 0, none⟩) nN cap, vr, .slice none 0 0] 25 (0, 0)) ∧ wr.ownsRow wa.heap.size 3 1 vr ((g.rs.take k).map (tat nN b)).length (((g.rs.take k).map (tat nN b)).map (Value.int .i64)) ∧ wa.grownBy wr (some w1.heap.size)) (fun i _ => nR - (intOf i).toNat)
      case atStart => exact ⟨0, _, Nat.zero_le _, rfl, HT3.out, own_nil _ _ _, ⟨rfl, rfl, rfl, Nat.le_refl _, fun _ _ _ => rfl⟩⟩
      case round =>
        clear u0 u1 u2
        obtain ⟨k, vr, hk, rfl, hT, ho, hg⟩ := hrel
        obtain ⟨L, hL⟩ : ∃ L, (g.rs.take k).map (tat nN b) = L := ⟨_, rfl⟩
        have hLl : L.length ≤ 1000 := by rw [← hL]; simp; omega
        rw [hL] at ho
        obtain ⟨_, A5, c5, rfl, _⟩ := own_rd ho
        have HLE := Lib.hid hL
        have HO := Lib.hid ho
        have HGR := Lib.hid hg
        have HTT := Lib.hid hT
        have hgs := hg.size
        have HQG := Lib.hid ((hg.block _ (blt HXG3.out) (fun e => by injection e with e; omega)).trans HXG3.out)
        have HQB := Lib.hid ((hg.block _ (blt HXB3.out) (fun e => by injection e with e; omega)).trans HXB3.out)
        have HQN := Lib.hid ((hg.block _ (blt HXN3.out) (fun e => by injection e with e; omega)).trans HXN3.out)
        have HBR : Hid (Below w.heap.size w wr) := Lib.hid (HBW.out.trans (Tm.below_of_grown hg (by omega) (by omega)))
        obtain ⟨t0, t1, t2⟩ := Bx3_one hT
        have tf1 := blk_frozen hT 1
        have hT3 : w1.heap.size < wr.heap.size := blt hT
        clear hL ho hg hT
        by_cases hlt3 : k < nR
        · obtain ⟨ad, rfl, hc⟩ := (HR.out.below HBR.out.block) k (by rw [HRL.out]; exact hlt3)
          have HTS : Hid ((g.rs.take (k + 1)).map (tat nN b) = L ++ [tat nN b (g.rs.getD k 0)]) := Lib.hid (by rw [take_snoc g.rs 0 k (by rw [HRL.out]; exact hlt3), List.map_append, HLE.out]; rfl)
          have hx := (HMR.out.1 _ (mem_getD (d := (0 : Int)) (show k < g.rs.length by rw [HRL.out]; exact hlt3))).2
          obtain ⟨x, hxe⟩ : ∃ x, g.rs.getD k 0 = x := ⟨_, rfl⟩
          rw [hxe] at hc HTS hx
          have HA := Lib.hid (HAT.out x wr.drew hx HQB.out HQN.out)
          obtain ⟨y, hy⟩ : ∃ y, tat nN b x = y := ⟨_, rfl⟩
          rw [hy] at HA HTS
          have HRo : Hid ((Kd.int .i64).R 3 wr.drew wa.heap.size (fun _ => True) (.slice A5 L.length c5) L) := Lib.hid (Kd.R_of_own (own_move HO.out fun _ _ => rfl) fun _ _ => trivial)
          have HBo : Hid (Below wa.heap.size wr.drew wr.drew) := Lib.hid (Below.refl _ _)
          have hbo : wa.heap.size ≤ wr.drew.heap.size := hgs
          clear hxe hy hx
          go_wp2
          go_region_law (first
            | (go_simp; go_at_call 30; refine HA.out.mono ?_; rintro e w6 ⟨rfl, rfl⟩)
            | (refine Kd.R_append_step (P := Try.prog) (Kd.int .i64) (w0 := wr.drew) (W := wr.drew) wa.heap.size (by rfl) (.tmp 75) (.tmp 79) 23 3 (.int .i64 0) 8 (by rfl) Try.underlying23 info3 rfl (by decide) (by decide) (.slice A5 L.length c5) L y [.int .i64 y] (fun _ => True) (fun _ => False) (by rfl) (by rfl) rfl (fun _ h => h.elim) (fun _ _ => trivial) HRo.out HBo.out hbo (by omega) ?_; intro v9 w9 hr9 hb9 hg9 hat9; have ho9 := Kd.own_of_R hr9; obtain ⟨_, A6, c6, rfl, _⟩ := own_rd ho9; have hT9 := (hg9.block w1.heap.size (blt HTT.out) (fun e => own_ty HO.out HTT.out (by decide) e.symm)).trans HTT.out; obtain ⟨q0, q1, q2⟩ := Bx3_one hT9; have qf := blk_frozen hT9 1))
          all_goals
            simp only [List.length_append, List.length_cons, List.length_nil, Nat.zero_add] at ho9
            have HTF : Hid ((w9.setCell ⟨w1.heap.size, 1, none⟩ (.slice A6 (L.length + 1) c6)).heap[w1.heap.size]? = some (.cells #[.slice (some ⟨M, 0, none⟩) nN cap, .slice A6 (L.length + 1) c6, .slice none 0 0] 25 (0, 0))) := Lib.hid (blk_set hT9 1 _)
            have HOF : Hid ((w9.setCell ⟨w1.heap.size, 1, none⟩ (.slice A6 (L.length + 1) c6)).ownsRow wa.heap.size 3 1 (.slice A6 (L.length + 1) c6) ((g.rs.take (k + 1)).map (tat nN b)).length (((g.rs.take (k + 1)).map (tat nN b)).map (Value.int .i64))) := Lib.hid (by
              rw [HTS.out, List.length_append]
              exact Tm.own_other ho9 hT9 (by decide) (grown_set _ _ _ _))
            have HGF : Hid (wa.grownBy (w9.setCell ⟨w1.heap.size, 1, none⟩ (.slice A6 (L.length + 1) c6)) (some w1.heap.size)) := Lib.hid (app_grown HGR.out hb9 (grown_set w9 w1.heap.size 1 (.slice A6 (L.length + 1) c6)))
            clear ho9 hr9 hb9 hg9 hat9 hT9
            go_wp2
            go_roundw
            case rel => exact ⟨k + 1, _, by omega, by go_num, HTF.out, HOF.out, HGF.out⟩
            case measure => simp [intOf]; omega
        · obtain rfl : nR = k := by omega
          have hle := HLE.out
          rw [List.take_of_length_le (by rw [HRL.out]; exact Nat.le_refl _)] at hle
          have HLR := Lib.hid hle
          obtain ⟨L1, hL1⟩ : ∃ L1, L = L1 := ⟨_, rfl⟩
          subst hL1
          obtain ⟨A4, hA4⟩ : ∃ A, A5 = A := ⟨_, rfl⟩
          subst hA4
          obtain ⟨c4, hc4⟩ : ∃ c, c5 = c := ⟨_, rfl⟩
          subst hc4
          obtain ⟨wb, rfl⟩ : ∃ wb : World, wb = wr := ⟨_, rfl⟩
          have HXG4 := Lib.hid HQG.out
          have HXB4 := Lib.hid HQB.out
          have HXN4 := Lib.hid HQN.out
          have HXR4 := Lib.hid ((HGR.out.block _ (blt HXR3.out) (fun e => by injection e with e; omega)).trans HXR3.out)
          have HBX := Lib.hid HBR.out
          have HT4 := Lib.hid HTT.out
          have HO4 := Lib.hid HO.out
          have HWAB := Lib.hid HGR.out
          obtain ⟨u0, u1, u2⟩ := Bx3_one HXG4.out
          have hT4 : w1.heap.size < wb.heap.size := blt HT4.out
          clear hle t0 t1 t2 tf1 HLE
          go_wp2
          go_loopw [86] (fun i wr => ∃ (k : Nat) (vr : Value), k ≤ nW ∧ i = .int .i64 (k : Int) ∧ wr.heap[w1.heap.size]? = some (.cells #[.slice (some ⟨M, 0, none⟩) nN cap, .slice A5 L.length c5, vr] 25 (0, 0)) ∧ wr.ownsRow wb.heap.size 3 1 vr ((g.ws.take k).map (tat nN b)).length (((g.ws.take k).map (tat nN b)).map (Value.int .i64)) ∧ wb.grownBy wr (some w1.heap.size)) (fun i _ => nW - (intOf i).toNat)
          case atStart => exact ⟨0, _, Nat.zero_le _, rfl, HT4.out, own_nil _ _ _, ⟨rfl, rfl, rfl, Nat.le_refl _, fun _ _ _ => rfl⟩⟩
          case round =>
            clear u0 u1 u2
            obtain ⟨L1, hL1⟩ : ∃ L1, L = L1 := ⟨_, rfl⟩
            obtain ⟨A4, hA4⟩ : ∃ A, A5 = A := ⟨_, rfl⟩
            obtain ⟨c4, hc4⟩ : ∃ c, c5 = c := ⟨_, rfl⟩
            rw [hL1] at hLl HO HTT HT4 HO4 HLR hrel
            rw [hA4] at HO HTT HT4 HO4 hrel
            rw [hc4] at HO HTT HT4 HO4 hrel
            have HLR2 := Lib.hid HLR.out
            rw [hL1, hA4, hc4]
            clear HO HTT HGR hk hlt3 hgs HQG HQB HQN HBR hT3
            clear hL1 hA4 hc4
            obtain ⟨k, vr, hk, rfl, hT, ho, hg⟩ := hrel
            obtain ⟨L, hL⟩ : ∃ L, (g.ws.take k).map (tat nN b) = L := ⟨_, rfl⟩
            have hLl : L.length ≤ 1000 := by rw [← hL]; simp; omega
            rw [hL] at ho
            obtain ⟨_, A5, c5, rfl, _⟩ := own_rd ho
            have HLE := Lib.hid hL
            have HO := Lib.hid ho
            have HGR := Lib.hid hg
            have HTT := Lib.hid hT
            have hgs := hg.size
            have HQG := Lib.hid ((hg.block _ (blt HXG4.out) (fun e => by injection e with e; omega)).trans HXG4.out)
            have HQB := Lib.hid ((hg.block _ (blt HXB4.out) (fun e => by injection e with e; omega)).trans HXB4.out)
            have HQN := Lib.hid ((hg.block _ (blt HXN4.out) (fun e => by injection e with e; omega)).trans HXN4.out)
            have HBR : Hid (Below w.heap.size w wr) := Lib.hid (HBX.out.trans (Tm.below_of_grown hg (by omega) (by omega)))
            obtain ⟨t0, t1, t2⟩ := Bx3_one hT
            have tf1 := blk_frozen hT 2
            have hT3 : w1.heap.size < wr.heap.size := blt hT
            clear hL ho hg hT
            by_cases hlt3 : k < nW
            · obtain ⟨ad, rfl, hc⟩ := (HW.out.below HBR.out.block) k (by rw [HWL.out]; exact hlt3)
              have HTS : Hid ((g.ws.take (k + 1)).map (tat nN b) = L ++ [tat nN b (g.ws.getD k 0)]) := Lib.hid (by rw [take_snoc g.ws 0 k (by rw [HWL.out]; exact hlt3), List.map_append, HLE.out]; rfl)
              have hx := (HMR.out.2 _ (mem_getD (d := (0 : Int)) (show k < g.ws.length by rw [HWL.out]; exact hlt3))).2
              obtain ⟨x, hxe⟩ : ∃ x, g.ws.getD k 0 = x := ⟨_, rfl⟩
              rw [hxe] at hc HTS hx
              have HA := Lib.hid (HAT.out x wr.drew hx HQB.out HQN.out)
              obtain ⟨y, hy⟩ : ∃ y, tat nN b x = y := ⟨_, rfl⟩
              rw [hy] at HA HTS
              have HRo : Hid ((Kd.int .i64).R 3 wr.drew wb.heap.size (fun _ => True) (.slice A5 L.length c5) L) := Lib.hid (Kd.R_of_own (own_move HO.out fun _ _ => rfl) fun _ _ => trivial)
              have HBo : Hid (Below wb.heap.size wr.drew wr.drew) := Lib.hid (Below.refl _ _)
              have hbo : wb.heap.size ≤ wr.drew.heap.size := hgs
              clear hxe hy hx
              go_wp2
              go_region_law (first
                | (go_simp; go_at_call 30; refine HA.out.mono ?_; rintro e w6 ⟨rfl, rfl⟩)
                | (refine Kd.R_append_step (P := Try.prog) (Kd.int .i64) (w0 := wr.drew) (W := wr.drew) wb.heap.size (by rfl) (.tmp 91) (.tmp 95) 23 3 (.int .i64 0) 8 (by rfl) Try.underlying23 info3 rfl (by decide) (by decide) (.slice A5 L.length c5) L y [.int .i64 y] (fun _ => True) (fun _ => False) (by rfl) (by rfl) rfl (fun _ h => h.elim) (fun _ _ => trivial) HRo.out HBo.out hbo (by omega) ?_; intro v9 w9 hr9 hb9 hg9 hat9; have ho9 := Kd.own_of_R hr9; obtain ⟨_, A6, c6, rfl, _⟩ := own_rd ho9; have hT9 := (hg9.block w1.heap.size (blt HTT.out) (fun e => own_ty HO.out HTT.out (by decide) e.symm)).trans HTT.out; obtain ⟨q0, q1, q2⟩ := Bx3_one hT9; have qf := blk_frozen hT9 2))
              all_goals
                simp only [List.length_append, List.length_cons, List.length_nil, Nat.zero_add] at ho9
                have HTF : Hid ((w9.setCell ⟨w1.heap.size, 2, none⟩ (.slice A6 (L.length + 1) c6)).heap[w1.heap.size]? = some (.cells #[.slice (some ⟨M, 0, none⟩) nN cap, .slice A4 L1.length c4, .slice A6 (L.length + 1) c6] 25 (0, 0))) := Lib.hid (blk_set hT9 2 _)
                have HOF : Hid ((w9.setCell ⟨w1.heap.size, 2, none⟩ (.slice A6 (L.length + 1) c6)).ownsRow wb.heap.size 3 1 (.slice A6 (L.length + 1) c6) ((g.ws.take (k + 1)).map (tat nN b)).length (((g.ws.take (k + 1)).map (tat nN b)).map (Value.int .i64))) := Lib.hid (by
                  rw [HTS.out, List.length_append]
                  exact Tm.own_other ho9 hT9 (by decide) (grown_set _ _ _ _))
                have HGF : Hid (wb.grownBy (w9.setCell ⟨w1.heap.size, 2, none⟩ (.slice A6 (L.length + 1) c6)) (some w1.heap.size)) := Lib.hid (app_grown HGR.out hb9 (grown_set w9 w1.heap.size 2 (.slice A6 (L.length + 1) c6)))
                clear ho9 hr9 hb9 hg9 hat9 hT9
                go_wp2
                go_roundw
                case rel => exact ⟨k + 1, _, by omega, by go_num, HTF.out, HOF.out, HGF.out⟩
                case measure => simp [intOf]; omega
            · obtain rfl : nW = k := by omega
              have hle := HLE.out
              rw [List.take_of_length_le (by rw [HWL.out]; exact Nat.le_refl _)] at hle
              have e1 : (turnG g b).ns.length = nN := by rw [turn_len, HNL.out]
              have e2 : (turnG g b).rs = L1 := by rw [← HLR2.out]; show g.rs.map (tat g.ns.length b) = _; rw [HNL.out]
              have e3 : (turnG g b).ws = L := by rw [← hle]; show g.ws.map (tat g.ns.length b) = _; rw [HNL.out]
              have HE1 := Lib.hid e1
              have HE2 := Lib.hid e2
              have HE3 := Lib.hid e3
              have hres := (HGR.out.block _ (blt HXR4.out) (fun e => by injection e with e; omega)).trans HXR4.out
              have HRes := Lib.hid hres
              have g0 := blk_frozen hres 0
              have g1 := blk_frozen hres 1
              have g2 := blk_frozen hres 2
              obtain ⟨r0, r1, r2⟩ := Bx3_one hres
              obtain ⟨w10, hw10, h10, hg10⟩ := Tm.set3 hres (.slice (some ⟨M, 0, none⟩) nN cap) (.slice A4 L1.length c4) (.slice A5 L.length c5)
              obtain ⟨j0, j1, j2⟩ := Bx3_one h10
              have hwab : wa.grownBy wb (some w1.heap.size) := HWAB.out
              have HRW := Tm.R2.other (Tm.R2.other (Tm.R2.other HNS.out HT3.out (by decide) hwab) HT4.out (by decide) HGR.out) HRes.out (by decide) hg10
              have HCap : Hid (nN ≤ cap) := Lib.hid (by
                obtain ⟨A', c', e, hl, _⟩ := HRW.reads
                have e3 : cap = c' := by injection e
                rw [e3, ← e1]
                exact hl)
              have HNV := Lib.hid (Tm.nv_stable HRW (fun _ _ _ => rfl))
              have h4 := Tm.own_other (Tm.own_other HO4.out HT4.out (by decide) HGR.out) HRes.out (by decide) hg10
              have h5 := Tm.own_other HO.out HRes.out (by decide) hg10
              have HRA := Lib.hid (Tm.own_rdA h4)
              have HRB := Lib.hid (Tm.own_rdA h5)
              have HC4 := Lib.hid (Tm.own_cap h4)
              have HC5 := Lib.hid (Tm.own_cap h5)
              have HBF : Hid (Below w.heap.size w w10) := Lib.hid (HBR.out.trans (Tm.below_of_grown hg10 (by omega) HBR.out.size))
              have HGF : Hid (GAt w10 (.agg #[.slice (some ⟨M, 0, none⟩) nN cap, .slice A4 L1.length c4, .slice A5 L.length c5]) (turnG g b)) := Lib.hid
                ⟨some ⟨M, 0, none⟩, cap, A4, c4, A5, c5, by rw [HE1.out, HE2.out, HE3.out], by rw [HE1.out]; exact HCap.out, by rw [HE2.out]; exact HC4.out, by rw [HE3.out]; exact HC5.out, HNV.out, by rw [HE2.out]; exact HRA.out, by rw [HE3.out]; exact HRB.out⟩
              clear hle e1 e2 e3 hres h10 hg10 hwab HRW h4 h5
              go_wp2
              try rw [hw10]
              exact bodyPost_ret (v := .agg #[.slice (some ⟨M, 0, none⟩) nN cap, .slice A4 L1.length c4, .slice A5 L.length c5]) (by simp [results, Try.results17, go_sem, j0, j1, j2]) rfl ⟨_, rfl, HGF.out, HBF.out⟩
end Go.Proofs.Ytdgclpgjoanimaa.Tw
