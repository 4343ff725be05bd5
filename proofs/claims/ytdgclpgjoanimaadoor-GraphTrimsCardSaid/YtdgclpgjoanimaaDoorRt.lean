/-
  The reference's trimmed graph, by contract.
-/
import Derived.Test.YtdgclpgjoanimaaDoorSd
import Derived.Test.YtdgclpgjoanimaaDoorMc
import Derived.Test.YtdgclpgjoanimaaDoorRo
namespace Go.Proofs.YtdgclpgjoanimaaDoor.Rt
open Go.RowKit Go.ChangeShapes Go.WideShapes Go.Proofs.YtdgclpgjoanimaaDoorW.PrintWords Go.Proofs.YtdgclpgjoanimaaDoor.Ba Go.Proofs.YtdgclpgjoanimaaDoor.Ma Go.Proofs.YtdgclpgjoanimaaDoor.Mb Go.Proofs.YtdgclpgjoanimaaDoor.Pu Go.Proofs.YtdgclpgjoanimaaDoor.Wa Go.Proofs.YtdgclpgjoanimaaDoor.To Go.Proofs.YtdgclpgjoanimaaDoor.Tr Go.Proofs.YtdgclpgjoanimaaDoor.Tm Go.Proofs.YtdgclpgjoanimaaDoor.Tp
open Go.Proofs.YtdgclpgjoanimaaDoor.Sd (plain_any PlainPost box5_set)
set_option linter.unusedVariables false
set_option linter.unusedSimpArgs false
set_option maxRecDepth 100000
theorem blt {w : World} {k : Nat} {o : Obj} (h : w.heap[k]? = some o) : k < w.heap.size := (Array.getElem?_eq_some_iff.1 h).1
theorem app_grown {wa wr w9 w10 : World} {T : Nat} (h1 : wa.grownBy wr (some T)) (h2 : Below wa.heap.size wr.drew w9) (h3 : w9.grownBy w10 (some T)) : wa.grownBy w10 (some T) :=
  ⟨h3.os.trans (h2.os.trans h1.os), h3.tape.trans (h2.tape.trans h1.tape), h3.output.trans (h2.output.trans h1.output), Nat.le_trans h1.size (Nat.le_trans h2.size h3.size), fun k hk hne => (h3.block k (Nat.lt_of_lt_of_le hk (Nat.le_trans h1.size h2.size)) hne).trans ((h2.block k hk).trans (h1.block k hk hne))⟩
theorem may_kinds {g : G3} (hm : mayG g = true) : ∀ x ∈ g.ns, ∀ v ∈ x.fs, v.kd = 0 ∨ v.kd = 1 ∨ v.kd = 2 ∨ v.kd = 3 := fun x hx v hv => by
  unfold mayG at hm
  simp only [Bool.and_eq_true, List.all_eq_true] at hm
  have h3 := hm.2 x hx v hv
  unfold fieldB at h3
  simp only [Bool.and_eq_true, decide_eq_true_eq] at h3
  omega
theorem told_plain {pl : List Int} {v : V5} (hk : v.kd = 0 ∨ v.kd = 1 ∨ v.kd = 2 ∨ v.kd = 3) (h3 : v.kd ≠ 3) : toldP pl v = plainV v := by
  unfold toldP plainV
  rcases hk with h | h | h | h
  · rw [if_neg (by omega), if_neg (by omega), if_neg (by omega), if_neg (by omega), if_neg (by omega), if_neg (by omega), h]
    rfl
  · rw [if_pos h, if_pos h]
  · rw [if_neg (by omega), if_pos h, if_neg (by omega), if_pos h]
  · exact absurd h h3
theorem place_any (A : Option Addr) (c : Nat) (l : List Int) (x : Int) (w : World) (h : Rd w A l) (hx : x < (l.length : Int)) (h1 : x < 0 → x = -1) (hl : l.length ≤ 100000) : Calls Tryd.prog 37 #[.slice A l.length c, .int .i64 x] w (fun e w' => e = .returned (.int .i64 (mv l x)) ∧ w = w') := by
  by_cases h0 : x < 0
  · have hx1 := h1 h0
    subst hx1
    go_enter Tryd.func37, Tryd.ntmps37
    go_wp2
    go_ret
    exact ⟨rfl, rfl⟩
  · obtain ⟨k, rfl⟩ : ∃ k : Nat, x = (k : Int) := ⟨x.toNat, by omega⟩
    obtain ⟨ad, rfl, hc⟩ := h k (by omega)
    have HMV : Hid (mv l (k : Int) = l.getD k 0) := Lib.hid (by unfold mv; rw [if_pos (by omega), Int.toNat_natCast])
    generalize l.getD k 0 = y at hc HMV
    clear h h1
    go_enter Tryd.func37, Tryd.ntmps37
    go_wp2
    go_ret
    rw [HMV.out]
    exact ⟨rfl, rfl⟩
set_option maxHeartbeats 16000000 in
theorem rtrim_any (v : Value) (g : G3) (w : World) (h : GAt w v g) (hz : Sz g) : Calls Tryd.prog 14 #[v] w (TrimPost g w) := by
  have HG := Lib.hid h
  obtain ⟨AN, cN, AR, cR, AW, cW, rfl, _, _, _, hN, hR, hW⟩ := h
  have HN := Lib.hid hN
  have HR := Lib.hid hR
  have HW := Lib.hid hW
  have HZ := Lib.hid hz.f
  have z1 := hz.r
  have z2 := hz.s
  have hz25 : ∀ w, (zeroValue 25).run Tryd.prog w = .ok (.agg #[.slice none 0 0, .slice none 0 0, .slice none 0 0]) w := fun w => by kernel_rfl
  have hz34 : ∀ w, (zeroValue 33).run Tryd.prog w = .ok (.agg #[.int .i64 0, .slice none 0 0]) w := fun w => by kernel_rfl
  obtain ⟨nN, hnN⟩ : ∃ n, g.ns.length = n := ⟨_, rfl⟩
  have HNL := Lib.hid hnN
  obtain ⟨nR, hnR⟩ : ∃ n, g.rs.length = n := ⟨_, rfl⟩
  have HLR := Lib.hid hnR
  obtain ⟨nW, hnW⟩ : ∃ n, g.ws.length = n := ⟨_, rfl⟩
  have HLW := Lib.hid hnW
  rw [hnN, hnR, hnW] at HG ⊢
  rw [hnR] at z1
  rw [hnW] at z2
  obtain ⟨w0, hw0⟩ : ∃ w0, (w.alloc (.cells #[.slice AN nN cN, .slice AR nR cR, .slice AW nW cW] 25)).alloc (.cells #[.slice none 0 0, .slice none 0 0, .slice none 0 0] 25) = w0 := ⟨_, rfl⟩
  have hs0 : w0.heap.size = w.heap.size + 1 + 1 := by rw [← hw0, size_al, size_al]
  have HS0 := Lib.hid hs0
  have HB0 : Hid (Below w.heap.size w w0) := Lib.hid (by rw [← hw0]; exact ((Below.refl _ _).alloc (Nat.le_refl _) _).alloc (by simp) _)
  have HX0 : Hid (Bx3 w0 w.heap.size AN nN cN AR nR cR AW nW cW) := Lib.hid (by
    rw [← hw0]
    exact (((Below.refl (w.heap.size + 1) _).alloc (by simp) _).block w.heap.size (by omega)).trans (heap_alloc_new w _))
  have HRes0 : Hid (w0.heap[w.heap.size + 1]? = some (.cells #[.slice none 0 0, .slice none 0 0, .slice none 0 0] 25 (0, 0))) := Lib.hid (by
    rw [← hw0, ← size_al w (.cells #[.slice AN nN cN, .slice AR nR cR, .slice AW nW cW] 25)]; exact heap_alloc_new _ _)
  have HM := Lib.hid (Mc.rmay_any _ g w0 (HG.out.below HB0.out) hz)
  have HGB := Lib.hid (HG.out.below HB0.out)
  obtain ⟨b0, b1, b2⟩ := HX0.out.cells
  clear hN hR hW hs0
  cases em : mayG g
  · have HT : Hid (trimL g = ⟨[], [], []⟩) := Lib.hid (by unfold trimL; rw [em]; rfl)
    rw [em] at HM
    clear em
    go_enter Tryd.func14, Tryd.ntmps14
    go_wp2_with fail
    refine HM.out.mono ?_
    rintro e w1 ⟨rfl, hb⟩
    have HB1 := Lib.hid (HB0.out.trans (hb.mono HB0.out.size))
    have HRes := (hb.block (w.heap.size + 1) (by rw [HS0.out]; omega)).trans HRes0.out
    obtain ⟨r0, r1, r2⟩ := Bx3_one HRes
    have f0 := blk_frozen HRes 0
    have f1 := blk_frozen HRes 1
    have f2 := blk_frozen HRes 2
    have HBS := hb.size
    rw [HS0.out] at HBS
    obtain ⟨w9, hw9, h9, hg9⟩ := Tm.set3 HRes (.slice none 0 0) (.slice none 0 0) (.slice none 0 0)
    have HB9 : Hid (Below w.heap.size w w9) := Lib.hid (HB1.out.trans (Tm.below_of_grown hg9 (by omega) (by omega)))
    obtain ⟨c0, c1, c2⟩ := Bx3_one h9
    clear hb HRes h9 hg9
    go_wp2
    try rw [hw9]
    exact bodyPost_ret (v := .agg #[.slice none 0 0, .slice none 0 0, .slice none 0 0]) (by simp [results, Tryd.results14, go_sem, c0, c1, c2]) rfl ⟨_, rfl, by rw [HT.out]; exact gat_nil _, HB9.out⟩
  · have HT : Hid (trimL g = trimW g (walkL g g.rs)) := Lib.hid (by unfold trimL; rw [em]; rfl)
    have HMF := Lib.hid (may_fields em)
    have HMR := Lib.hid (may_roots em)
    have HKD := Lib.hid (may_kinds em)
    have hn := Re.may_len em
    rw [hnN] at hn
    rw [em] at HM
    have hmk := print_make (P := Tryd.prog) 23 3 .i64 8 Tryd.underlying23 info3 (by decide) nN (by omega)
    have HGD := Lib.hid (gd_walk g g.rs)
    obtain ⟨W, hWe⟩ : ∃ W, walkL g g.rs = W := ⟨_, rfl⟩
    have HWE := Lib.hid hWe
    rw [hWe] at HT HGD
    rw [hnN] at HGD
    have hWl := gd_le HGD.out
    clear em hnN hnR hnW hWe
    go_enter Tryd.func14, Tryd.ntmps14
    go_wp2_with fail
    refine HM.out.mono ?_
    rintro e w1 ⟨rfl, hb⟩
    have hx1 := HX0.out.below hb
    obtain ⟨b0, b1, b2⟩ := hx1.cells
    have HX1 := Lib.hid hx1
    have HB1 := Lib.hid (HB0.out.trans (hb.mono HB0.out.size))
    have HRes1 : Hid (w1.heap[w.heap.size + 1]? = _) := Lib.hid ((hb.block (w.heap.size + 1) (by rw [HS0.out]; omega)).trans HRes0.out)
    have hs1 : w.heap.size + 1 + 1 ≤ w1.heap.size := by have := hb.size; rw [HS0.out] at this; exact this
    have HWK : Hid (Calls Tryd.prog 36 #[.agg #[.slice AN nN cN, .slice AR nR cR, .slice AW nW cW], .slice AR nR cR] w1 (Own w1 W)) := Lib.hid (by
      have := Ro.order_any _ g AR cR g.rs w1 (HGB.out.below hb) hz (by rw [HNL.out]; exact hn) ((HR.out.below HB0.out.block).below hb.block) (by rw [HLR.out]; omega)
      rw [HWE.out, HLR.out] at this
      exact this)
    clear hb hx1
    go_wp2_with fail
    refine HWK.out.mono ?_
    rintro e w2 ⟨v2, rfl, ho2, hb2⟩
    obtain ⟨_, A5, c5, rfl, hrd2⟩ := own_rd ho2
    have hx2 := HX1.out.below hb2
    obtain ⟨b0, b1, b2⟩ := hx2.cells
    have HX2 := Lib.hid hx2
    have HB2 := Lib.hid (HB1.out.trans (hb2.mono HB1.out.size))
    have HRes2 : Hid (w2.heap[w.heap.size + 1]? = _) := Lib.hid ((hb2.block (w.heap.size + 1) (by omega)).trans HRes1.out)
    have hs2 : w.heap.size + 1 + 1 ≤ w2.heap.size := by have := hb2.size; omega
    have HRD2 := Lib.hid hrd2
    have HROW := Lib.hid (made_neg (w := w2) (n := nN))
    have HBM := Lib.hid ((Below.refl w2.heap.size w2).alloc (Nat.le_refl _) (.cells (madeCells #[.int .i64 0] nN) 3))
    clear ho2 hrd2 hb2 hx2
    go_wp2
    go_loopw [32] (fun i wr => ∃ t : Nat, t ≤ nN ∧ i = .int .i64 (t : Int) ∧ wr.rowIs w2.heap.size 3 nN (negF t) ∧ Below w2.heap.size w2 wr) (fun i _ => nN - (intOf i).toNat)
    case atStart => exact ⟨0, Nat.zero_le _, rfl, HROW.out, HBM.out⟩
    case round =>
      obtain ⟨t, ht, rfl, hrow, hb⟩ := hrel
      have HRW := Lib.hid hrow
      have HB := Lib.hid hb
      have hbs := hb.size
      by_cases hlt : t < nN
      · have c1 := hrow.cell hlt
        have f1 := hrow.frozen t
        obtain ⟨y, hy⟩ : ∃ y : Int, negF t t = .int .i64 y := ⟨_, rfl⟩
        rw [hy] at c1
        obtain ⟨w4, hw4⟩ : ∃ w4, wr.setCell ⟨w2.heap.size, t, none⟩ (.int .i64 (-1)) = w4 := ⟨_, rfl⟩
        have HR4 : Hid (w4.rowIs w2.heap.size 3 nN (negF (t + 1))) := Lib.hid (by rw [← hw4]; exact neg_step HRW.out)
        have HB4 : Hid (Below w2.heap.size w2 w4) := Lib.hid (HB.out.trans (Tm.below_of_grown (by rw [← hw4]; exact grown_set _ _ _ _) (Nat.le_refl _) hbs))
        clear hrow hb hy
        go_wp2
        go_roundw
        case rel => exact ⟨t + 1, by omega, by go_num, HR4.out, HB4.out⟩
        case measure => simp [intOf]; omega
      · obtain rfl : nN = t := by omega
        have HRW2 := Lib.hid (neg_place HRW.out)
        have HRD3 := Lib.hid (HRD2.out.below HB.out.block)
        clear hrow hb HRW hlt
        obtain ⟨w3, rfl⟩ : ∃ w3 : World, w3 = wr := ⟨_, rfl⟩
        go_wp2
        go_loopw [41] (fun i wr => ∃ t : Nat, t ≤ W.length ∧ i = .int .i64 (t : Int) ∧ wr.rowIs w2.heap.size 3 nN (plF (W.take t)) ∧ Below w2.heap.size w2 wr) (fun i _ => W.length - (intOf i).toNat)
        case atStart => exact ⟨0, Nat.zero_le _, rfl, HRW2.out, HB.out⟩
        case round =>
          obtain ⟨t, ht, rfl, hrow, hb⟩ := hrel
          have HRW := Lib.hid hrow
          have HBB := Lib.hid hb
          have hbs3 := hb.size
          by_cases hlt : t < W.length
          · obtain ⟨ad, rfl, hc⟩ := (HRD2.out.below hb.block) t hlt
            have hx := HGD.out.2 _ (mem_getD (d := (0 : Int)) hlt)
            obtain ⟨y, hy⟩ : ∃ y, W.getD t 0 = y := ⟨_, rfl⟩
            rw [hy] at hc hx
            obtain ⟨hx0, hx1⟩ := isB_iff.1 hx
            obtain ⟨k, rfl⟩ : ∃ k : Nat, y = (k : Int) := ⟨y.toNat, by omega⟩
            have hk : k < nN := by omega
            have c1 := hrow.cell hk
            have f1 := hrow.frozen k
            obtain ⟨w4, hw4⟩ : ∃ w4, wr.setCell ⟨w2.heap.size, k, none⟩ (.int .i64 (t : Int)) = w4 := ⟨_, rfl⟩
            have HR4 : Hid (w4.rowIs w2.heap.size 3 nN (plF (W.take (t + 1)))) := Lib.hid (by rw [← hw4]; exact place_step HRW.out HGD.out.1 hlt hy)
            have HB4 : Hid (Below w2.heap.size w2 w4) := Lib.hid (HBB.out.trans (Tm.below_of_grown (by rw [← hw4]; exact grown_set _ _ _ _) (Nat.le_refl _) hbs3))
            unfold plF at c1
            clear hrow hb hx hy
            go_wp2
            go_roundw
            case rel => exact ⟨t + 1, by omega, by go_num, HR4.out, HB4.out⟩
            case measure => simp [intOf]; omega
          · obtain rfl : t = W.length := by omega
            have hrw := HRW.out
            rw [List.take_length] at hrw
            have HPL := Lib.hid (place_rd hrw)
            have HPLT := Lib.hid hrw.lt
            have hx5 := HX2.out.below hb
            have HX5 := Lib.hid hx5
            have HB5 := Lib.hid (HB2.out.trans (hb.mono HB2.out.size))
            have HRes5 : Hid (wr.heap[w.heap.size + 1]? = _) := Lib.hid ((hb.block (w.heap.size + 1) (by omega)).trans HRes2.out)
            have HRD5 := Lib.hid (HRD2.out.below hb.block)
            obtain ⟨w5, rfl⟩ : ∃ w5 : World, w5 = wr := ⟨_, rfl⟩
            clear hrow hb hrw HRW hlt HRW2 HRD3 hx5 HB HBB b0 b1 b2
            obtain ⟨pl, hpl⟩ : ∃ pl, placeL nN W = pl := ⟨_, rfl⟩
            have hpll : pl.length = nN := by rw [← hpl, placeL_len]
            have HPE := Lib.hid hpl
            rw [hpl] at HPL
            have HPA : Hid (∀ (x : Int) (W' : World), x < (nN : Int) → Rd W' (some ⟨w2.heap.size, 0, none⟩) pl → (x < 0 → x = -1) → Calls Tryd.prog 37 #[.slice (some ⟨w2.heap.size, 0, none⟩) nN nN, .int .i64 x] W' (fun e w' => e = .returned (.int .i64 (mv pl x)) ∧ W' = w')) := Lib.hid (fun x W' h0 h1 h2 => by
              have := place_any (some ⟨w2.heap.size, 0, none⟩) nN pl x W' h1 (by rw [hpll]; exact h0) h2 (by omega)
              rw [hpll] at this
              exact this)
            clear hpl hpll
            have HSB : Hid (w.heap.size + 1 + 1 ≤ w5.heap.size) := Lib.hid (by omega)
            go_wp2
            go_loopw [54] (fun i wr => ∃ (t : Nat) (vN : Value), t ≤ W.length ∧ i = .int .i64 (t : Int) ∧ wr.heap[w5.heap.size]? = some (.cells #[vN, .slice none 0 0, .slice none 0 0] 25 (0, 0)) ∧ R2 wr w5.heap.size vN ((W.take t).map (nodeT g pl)) ∧ Below w5.heap.size w5 wr) (fun i _ => W.length - (intOf i).toNat)
            case atStart => exact ⟨0, _, Nat.zero_le _, rfl, heap_alloc_new w5 _, R2.nil _ _, (Below.refl _ _).alloc (Nat.le_refl _) _⟩
            case round =>
              obtain ⟨t, vN, ht, rfl, hO, hR2, hb⟩ := hrel
              obtain ⟨LN, hLN⟩ : ∃ LN, (W.take t).map (nodeT g pl) = LN := ⟨_, rfl⟩
              have hLNl : LN.length ≤ 4096 := by rw [← hLN]; simp; omega
              rw [hLN] at hR2
              obtain ⟨A8, c8, rfl, _, _⟩ := hR2.reads
              have HO := Lib.hid hO
              have HR2 := Lib.hid hR2
              have HB := Lib.hid hb
              have HLN := Lib.hid hLN
              have hbs5 := hb.size
              have HBW : Hid (Below w.heap.size w wr) := Lib.hid (HB5.out.trans (hb.mono HB5.out.size))
              have hx := (hb.block _ (blt HX5.out)).trans HX5.out
              obtain ⟨b0, b1, b2⟩ := Bx3_one hx
              have HPW := Lib.hid (HPL.out.below hb.block)
              clear hO hR2 hLN
              by_cases hlt : t < W.length
              · obtain ⟨ad, rfl, hc⟩ := (HRD5.out.below hb.block) t hlt
                have hx := HGD.out.2 _ (mem_getD (d := (0 : Int)) hlt)
                have HTK : Hid ((W.take (t + 1)).map (nodeT g pl) = LN ++ [nodeT g pl (W.getD t 0)]) := Lib.hid (by rw [take_snoc W 0 t hlt, List.map_append, HLN.out]; rfl)
                obtain ⟨y, hy⟩ : ∃ y, W.getD t 0 = y := ⟨_, rfl⟩
                rw [hy] at hc hx HTK
                obtain ⟨hx0, hx1⟩ := isB_iff.1 hx
                obtain ⟨k, rfl⟩ : ∃ k : Nat, y = (k : Int) := ⟨y.toNat, by omega⟩
                have hk : k < nN := by omega
                have hk' : k < g.ns.length := by rw [HNL.out]; exact hk
                obtain ⟨ad2, rfl, y0, A7, c7, y1, _, hfv⟩ := HN.out k hk'
                have y0 := cell_old y0 HBW.out.block
                have y1 := cell_old y1 HBW.out.block
                have hmem := mem_getD (d := zN) hk'
                have hzl := HZ.out _ hmem
                have HNT : Hid (nodeT g pl (k : Int) = ⟨(g.ns.getD k zN).kd, (g.ns.getD k zN).fs.map (toldP pl)⟩) := Lib.hid (by unfold nodeT nd; rw [Int.toNat_natCast])
                have HFF := Lib.hid (HMF.out _ hmem)
                have HKK := Lib.hid (HKD.out _ hmem)
                rw [HNL.out] at HFF
                obtain ⟨xn, hxn⟩ : ∃ x, g.ns.getD k zN = x := ⟨_, rfl⟩
                rw [hxn] at y0 y1 hfv hzl HNT HFF HKK
                obtain ⟨x0, f0⟩ := xn
                dsimp only at y0 y1 hfv hzl HNT HFF HKK
                rw [HNT.out] at HTK
                have HFV := Lib.hid hfv
                obtain ⟨ws, rfl⟩ : ∃ ws : World, ws = wr := ⟨_, rfl⟩
                have HXN : Hid ((ws.alloc (.cells #[.int .i64 x0, .slice none 0 0] 33)).heap[ws.heap.size]? = some (.cells #[.int .i64 x0, .slice none 0 0] 33 (0, 0))) := Lib.hid (heap_alloc_new ws _)
                have HBX := Lib.hid ((Below.refl ws.heap.size ws).alloc (Nat.le_refl _) (.cells #[.int .i64 x0, .slice none 0 0] 33))
                have z0 := cell_old y0 HBX.out.block
                have z1' := cell_old y1 HBX.out.block
                obtain ⟨d0, d1, d2⟩ := Bx3_one (show (ws.alloc (.cells #[.int .i64 x0, .slice none 0 0] 33)).heap[w.heap.size]? = _ from (HBX.out.block _ (by omega)).trans ((hb.block _ (blt HX5.out)).trans HX5.out))
                clear hb hy hx hxn hfv hmem HNT
                go_wp2
                go_loopw [72] (fun i wr => ∃ (u : Nat) (v7 : Value), u ≤ f0.length ∧ i = .int .i64 (u : Int) ∧ wr.heap[ws.heap.size]? = some (.cells #[.int .i64 x0, v7] 33 (0, 0)) ∧ R5 wr ws.heap.size v7 ((f0.take u).map (toldP pl)) ∧ Below ws.heap.size ws wr) (fun i _ => f0.length - (intOf i).toNat)
                case atStart => exact ⟨0, _, Nat.zero_le _, rfl, HXN.out, R5.nil _ _, HBX.out⟩
                case round =>
                  clear z0 z1' d0 d1 d2 y0 y1 b0 b1 b2 HXN HBX hc
                  obtain ⟨u, v7, hu, rfl, hX, hR5, hb⟩ := hrel
                  obtain ⟨L7, hL7⟩ : ∃ L, (f0.take u).map (toldP pl) = L := ⟨_, rfl⟩
                  have hL7l : L7.length ≤ 1000 := by rw [← hL7]; simp; omega
                  rw [hL7] at hR5
                  obtain ⟨A9, c9, rfl, _, _⟩ := hR5.reads
                  obtain ⟨x1, x2⟩ := two_cells hX
                  have fz1 := blk_frozen hX 1
                  have HX := Lib.hid hX
                  have HR5 := Lib.hid hR5
                  have HBS := Lib.hid hb
                  have HL7 := Lib.hid hL7
                  have hbs7 := hb.size
                  clear hX hR5 hL7
                  by_cases hlt2 : u < f0.length
                  · obtain ⟨ad3, rfl, hc⟩ := (HFV.out.old (HBW.out.trans (hb.mono HBW.out.size)).block) u hlt2
                    have HEE : Hid ((f0.take (u + 1)).map (toldP pl) = L7 ++ [toldP pl (f0.getD u z5)]) := Lib.hid (by rw [take_snoc f0 z5 u hlt2, List.map_append, HL7.out]; rfl)
                    have HK3 := Lib.hid (HFF.out _ (mem_getD (d := z5) hlt2))
                    have HK0 := Lib.hid (HKK.out _ (mem_getD (d := z5) hlt2))
                    obtain ⟨x, hx⟩ : ∃ x, f0.getD u z5 = x := ⟨_, rfl⟩
                    rw [hx] at hc HEE HK3 HK0
                    clear hx
                    obtain ⟨p0, p1, p2, p3, p4⟩ := hc
                    obtain ⟨e0, e1, e2, e3, e4⟩ := x
                    dsimp only at p0 p1 p2 p3 p4 HK3 HK0
                    have hby := (Below.refl wr.heap.size wr).alloc (Nat.le_refl _) (.cells #[.int .i64 e0, .int .i64 e1, .int .u64 e2, .int .u64 e3, .int .i64 e4] 36)
                    have HYB : Hid (Bx5 (wr.alloc (.cells #[.int .i64 e0, .int .i64 e1, .int .u64 e2, .int .u64 e3, .int .i64 e4] 36)) wr.heap.size ⟨e0, e1, e2, e3, e4⟩) := Lib.hid (heap_alloc_new wr _)
                    have HPL' := Lib.hid (plain_any ⟨e0, e1, e2, e3, e4⟩ (wr.alloc (.cells #[.int .i64 e0, .int .i64 e1, .int .u64 e2, .int .u64 e3, .int .i64 e4] 36)))
                    unfold PlainPost agg5 at HPL'
                    have HBY := Lib.hid hby
                    have HPWR := Lib.hid (HPW.out.below hb.block)
                    clear hby hb
                    by_cases h3 : e0 = 3
                    · subst h3
                      have hpl : plainV ⟨3, e1, e2, e3, e4⟩ = ⟨3, 0, 0, 0, e4⟩ := rfl
                      rw [hpl] at HPL'
                      dsimp only at HPL'
                      obtain ⟨hr0, hr1⟩ := HK3.out rfl
                      have hmv : mv pl e4 = pl.getD e4.toNat 0 := by unfold mv; rw [if_pos hr0]
                      obtain ⟨tr, htr⟩ : ∃ t, pl.getD e4.toNat 0 = t := ⟨_, rfl⟩
                      have HE : Hid ((f0.take (u + 1)).map (toldP pl) = L7 ++ [⟨3, 0, 0, 0, tr⟩]) := Lib.hid (by rw [HEE.out, ← htr]; rfl)
                      have HA4 : Hid (∀ W', Rd W' (some ⟨w2.heap.size, 0, none⟩) pl → Calls Tryd.prog 37 #[.slice (some ⟨w2.heap.size, 0, none⟩) nN nN, .int .i64 e4] W' (fun e w' => e = .returned (.int .i64 tr) ∧ W' = w')) := Lib.hid (fun W' h1 => by
                        have := HPA.out e4 W' hr1 h1 (by omega)
                        rw [hmv, htr] at this
                        exact this)
                      clear hpl HEE hr0 hr1 hmv htr
                      go_wp2_with fail
                      refine HPL'.out.mono ?_
                      rintro e w6' ⟨rfl, hb6⟩
                      have hY6 := HYB.out.below hb6 (blt HYB.out)
                      obtain ⟨i0, i1, i2, i3, i4⟩ := Bx5.cells hY6
                      have q0 := blk_frozen hY6 0
                      have q1 := blk_frozen hY6 1
                      have q2 := blk_frozen hY6 2
                      have q3 := blk_frozen hY6 3
                      have q4 := blk_frozen hY6 4
                      obtain ⟨w7', hw7, hY7, hg7⟩ := box5_set hY6 ⟨3, 0, 0, 0, e4⟩
                      dsimp only at hw7
                      have HW7 : Hid (Below wr.heap.size wr w7') := Lib.hid ((HBY.out.trans (hb6.mono (by rw [size_al]; omega))).trans (Tm.below_of_grown hg7 (Nat.le_refl _) (by have := hb6.size; rw [size_al] at this; omega)))
                      obtain ⟨j0, j1, j2, j3, j4⟩ := Bx5.cells hY7
                      have fj := blk_frozen hY7 4
                      have HY7 := Lib.hid hY7
                      clear hb6 hY6 hY7 hg7
                      go_wp2_with fail
                      refine (HA4.out _ (HPWR.out.below HW7.out.block)).mono ?_
                      rintro e w77 ⟨rfl, rfl⟩
                      obtain ⟨w8', hw8'⟩ : ∃ w8', w7'.setCell ⟨wr.heap.size, 4, none⟩ (.int .i64 tr) = w8' := ⟨_, rfl⟩
                      have HY8 : Hid (Bx5 w8' wr.heap.size ⟨3, 0, 0, 0, tr⟩) := Lib.hid (by rw [← hw8']; exact blk_set HY7.out 4 _)
                      have HW8 : Hid (Below wr.heap.size wr w8') := Lib.hid (by rw [← hw8']; exact HW7.out.trans (Tm.below_of_grown (grown_set _ _ _ _) (Nat.le_refl _) HW7.out.size))
                      obtain ⟨m0, m1, m2, m3, m4⟩ := Bx5.cells HY8.out
                      clear i0 i1 i2 i3 i4 q0 q1 q2 q3 q4 hw7
                      have HXX8 := Lib.hid ((HW8.out.block _ (blt HX.out)).trans HX.out)
                      have HR8' := Lib.hid (HR5.out.below HW8.out)
                      have HBB8 := Lib.hid (HBS.out.trans (HW8.out.mono hbs7))
                      obtain ⟨_, s6⟩ := two_cells HXX8.out
                      have hs8 : ws.heap.size ≤ w8'.heap.size := HBB8.out.size
                      go_wp2_with (at_builtin; refine Kd.R_append (P := Tryd.prog) k5 (w0 := ws) (W := w8') ws.heap.size rfl (.tmp 87) (.tmp 89) 31 36 zV 40 rfl Tryd.underlying31 info5 rfl (by decide) (by decide) _ L7 ⟨3, 0, 0, 0, tr⟩ [.int .i64 3, .int .i64 0, .int .u64 0, .int .u64 0, .int .i64 tr] (fun _ => True) (fun _ => False) rfl rfl (k5_M _ _ _ _) (fun _ h => h.elim) (fun _ _ => trivial) HR8'.out HBB8.out hs8 ?c1 ?_)
                      case c1 => omega
                      intro v9 w9 hr9 hb9 hg9 hat9
                      obtain ⟨A6, c6, rfl, _, _⟩ := Kd.R_reads hr9
                      simp only [List.length_append, List.length_cons, List.length_nil, Nat.zero_add] at hr9
                      have hX9 := (hg9.block ws.heap.size (blt HXX8.out) (fun e => R5.ne HR8'.out HXX8.out (by decide) e.symm)).trans HXX8.out
                      obtain ⟨_, o9⟩ := two_cells hX9
                      have f9 := blk_frozen hX9 1
                      have HR9 : Hid (R5 (w9.setCell ⟨ws.heap.size, 1, none⟩ (.slice A6 (L7.length + 1) c6)) ws.heap.size (.slice A6 (L7.length + 1) c6) ((f0.take (u + 1)).map (toldP pl))) := Lib.hid (by rw [HE.out]; exact Kd.R_set hr9 hX9 (by decide) 1 _)
                      have HXF : Hid ((w9.setCell ⟨ws.heap.size, 1, none⟩ (.slice A6 (L7.length + 1) c6)).heap[ws.heap.size]? = some (.cells #[.int .i64 x0, .slice A6 (L7.length + 1) c6] 33 (0, 0))) := Lib.hid (blk_set hX9 1 _)
                      have HBF := Lib.hid (hb9.trans (Tm.below_of_grown (grown_set w9 ws.heap.size 1 (.slice A6 (L7.length + 1) c6)) (Nat.le_refl _) hb9.size))
                      clear hr9 hb9 hg9 hat9 hX9
                      go_wp2
                      go_roundw
                      case rel => exact ⟨u + 1, _, by omega, by go_num, HXF.out, HR9.out, HBF.out⟩
                      case measure => simp [intOf]; omega
                    · obtain ⟨⟨t0, t1, t2, t3, t4⟩, hy⟩ : ∃ y, plainV ⟨e0, e1, e2, e3, e4⟩ = y := ⟨_, rfl⟩
                      have hty : toldP pl ⟨e0, e1, e2, e3, e4⟩ = ⟨t0, t1, t2, t3, t4⟩ := by rw [← hy]; exact told_plain HK0.out h3
                      have ht0 : t0 ≠ 3 := by
                        have := congrArg V5.kd hy
                        unfold plainV at this
                        dsimp only at this
                        intro e
                        subst e
                        split at this
                        · cases this
                        · split at this
                          · cases this
                          · first
                            | (split at this <;> simp_all)
                            | simp_all
                      rw [hy] at HPL'
                      dsimp only at HPL'
                      have HE : Hid ((f0.take (u + 1)).map (toldP pl) = L7 ++ [⟨t0, t1, t2, t3, t4⟩]) := Lib.hid (by rw [HEE.out, hty])
                      have b3 : (t0 == 3) = false := by rw [beq_eq_false_iff_ne]; exact ht0
                      clear HEE hy h3 ht0 hty
                      go_wp2_with fail
                      refine HPL'.out.mono ?_
                      rintro e w6' ⟨rfl, hb6⟩
                      have hY6 := HYB.out.below hb6 (blt HYB.out)
                      obtain ⟨i0, i1, i2, i3, i4⟩ := Bx5.cells hY6
                      have q0 := blk_frozen hY6 0
                      have q1 := blk_frozen hY6 1
                      have q2 := blk_frozen hY6 2
                      have q3 := blk_frozen hY6 3
                      have q4 := blk_frozen hY6 4
                      obtain ⟨w7', hw7, hY7, hg7⟩ := box5_set hY6 ⟨t0, t1, t2, t3, t4⟩
                      dsimp only at hw7
                      have HW8 : Hid (Below wr.heap.size wr w7') := Lib.hid ((HBY.out.trans (hb6.mono (by rw [size_al]; omega))).trans (Tm.below_of_grown hg7 (Nat.le_refl _) (by have := hb6.size; rw [size_al] at this; omega)))
                      obtain ⟨j0, j1, j2, j3, j4⟩ := Bx5.cells hY7
                      clear hb6 hY6 hY7 hg7
                      have HXX8 := Lib.hid ((HW8.out.block _ (blt HX.out)).trans HX.out)
                      have HR8' := Lib.hid (HR5.out.below HW8.out)
                      have HBB8 := Lib.hid (HBS.out.trans (HW8.out.mono hbs7))
                      obtain ⟨_, s6⟩ := two_cells HXX8.out
                      have hs8 : ws.heap.size ≤ w7'.heap.size := HBB8.out.size
                      go_wp2_with (at_builtin; refine Kd.R_append (P := Tryd.prog) k5 (w0 := ws) (W := w7') ws.heap.size rfl (.tmp 87) (.tmp 89) 31 36 zV 40 rfl Tryd.underlying31 info5 rfl (by decide) (by decide) _ L7 ⟨t0, t1, t2, t3, t4⟩ [.int .i64 t0, .int .i64 t1, .int .u64 t2, .int .u64 t3, .int .i64 t4] (fun _ => True) (fun _ => False) rfl rfl (k5_M _ _ _ _) (fun _ h => h.elim) (fun _ _ => trivial) HR8'.out HBB8.out hs8 ?c1 ?_)
                      case c1 => omega
                      intro v9 w9 hr9 hb9 hg9 hat9
                      obtain ⟨A6, c6, rfl, _, _⟩ := Kd.R_reads hr9
                      simp only [List.length_append, List.length_cons, List.length_nil, Nat.zero_add] at hr9
                      have hX9 := (hg9.block ws.heap.size (blt HXX8.out) (fun e => R5.ne HR8'.out HXX8.out (by decide) e.symm)).trans HXX8.out
                      obtain ⟨_, o9⟩ := two_cells hX9
                      have f9 := blk_frozen hX9 1
                      have HR9 : Hid (R5 (w9.setCell ⟨ws.heap.size, 1, none⟩ (.slice A6 (L7.length + 1) c6)) ws.heap.size (.slice A6 (L7.length + 1) c6) ((f0.take (u + 1)).map (toldP pl))) := Lib.hid (by rw [HE.out]; exact Kd.R_set hr9 hX9 (by decide) 1 _)
                      have HXF : Hid ((w9.setCell ⟨ws.heap.size, 1, none⟩ (.slice A6 (L7.length + 1) c6)).heap[ws.heap.size]? = some (.cells #[.int .i64 x0, .slice A6 (L7.length + 1) c6] 33 (0, 0))) := Lib.hid (blk_set hX9 1 _)
                      have HBF := Lib.hid (hb9.trans (Tm.below_of_grown (grown_set w9 ws.heap.size 1 (.slice A6 (L7.length + 1) c6)) (Nat.le_refl _) hb9.size))
                      clear hr9 hb9 hg9 hat9 hX9
                      go_wp2
                      go_roundw
                      case rel => exact ⟨u + 1, _, by omega, by go_num, HXF.out, HR9.out, HBF.out⟩
                      case measure => simp [intOf]; omega
                  · obtain rfl : f0.length = u := by omega
                    have hL7e := HL7.out
                    rw [List.take_length] at hL7e
                    have HR2R := Lib.hid (HR2.out.below hb)
                    have hO := (hb.block _ (blt HO.out)).trans HO.out
                    obtain ⟨o0, _, _⟩ := Bx3_one hO
                    have fo := blk_frozen hO 0
                    have HOW := Lib.hid hO
                    have HBWR := Lib.hid (HB.out.trans (hb.mono hbs5))
                    have hsw := HBWR.out.size
                    have HMN : Hid (k2.M wr w5.heap.size (fun k => some k ≠ (Value.slice A8 LN.length c8).ownBlock) ⟨x0, f0.map (toldP pl)⟩ [.int .i64 x0, .slice A9 L7.length c9]) := Lib.hid
                      ⟨[_], [_], rfl, rfl, _, rfl, Kd.R_mono (Kd.R_bound (Kd.R_lower (by rw [hL7e]; exact HR5.out) hbs5)) (fun q hq e => by
                        have h1 := (HR2.out.lt q e.symm).2
                        obtain ⟨_, _, _, qq, hqq, cells, hcell⟩ := hq
                        have h2 := (hb.block q h1).symm.trans hcell
                        have h3 := own_typed (Kd.R_own HR2.out).choose_spec q e.symm
                        obtain ⟨cs, hcs⟩ := h3
                        rw [hcs] at h2
                        injection h2 with h2
                        injection h2 with _ h2
                        rw [← h2] at hqq
                        exact absurd hqq (by decide))⟩
                    clear hb hL7e hO
                    go_wp2_with (at_builtin; refine Kd.R_append (P := Tryd.prog) k2 (w0 := w5) (W := wr) w5.heap.size rfl (.tmp 94) (.tmp 96) 22 33 zNd 32 rfl Tryd.underlying22 infoN rfl (by decide) (by decide) _ LN ⟨x0, f0.map (toldP pl)⟩ [.int .i64 x0, .slice A9 L7.length c9] (fun _ => True) (fun k => some k ≠ (Value.slice A8 LN.length c8).ownBlock) rfl rfl HMN.out (fun k hk => ⟨trivial, hk⟩) (fun _ _ => trivial) HR2R.out HBWR.out hsw ?c1 ?_)
                    case c1 => omega
                    intro v9 w9 hr9 hb9 hg9 hat9
                    obtain ⟨A3, c3, rfl, _, _⟩ := Kd.R_reads hr9
                    simp only [List.length_append, List.length_cons, List.length_nil, Nat.zero_add] at hr9
                    have hO9 := (hg9.block w5.heap.size (blt HOW.out) (fun e => R2.ne HR2R.out HOW.out (by decide) e.symm)).trans HOW.out
                    have o9 := (Bx3_one hO9).1
                    have f9 := blk_frozen hO9 0
                    have HR9 : Hid (R2 (w9.setCell ⟨w5.heap.size, 0, none⟩ (.slice A3 (LN.length + 1) c3)) w5.heap.size (.slice A3 (LN.length + 1) c3) ((W.take (t + 1)).map (nodeT g pl))) := Lib.hid (by rw [HTK.out]; exact Kd.R_set hr9 hO9 (by decide) 0 _)
                    have HOF : Hid ((w9.setCell ⟨w5.heap.size, 0, none⟩ (.slice A3 (LN.length + 1) c3)).heap[w5.heap.size]? = some (.cells #[.slice A3 (LN.length + 1) c3, .slice none 0 0, .slice none 0 0] 25 (0, 0))) := Lib.hid (blk_set hO9 0 _)
                    have HBF := Lib.hid (hb9.trans (Tm.below_of_grown (grown_set w9 w5.heap.size 0 (.slice A3 (LN.length + 1) c3)) (Nat.le_refl _) hb9.size))
                    clear hr9 hb9 hg9 hat9 hO9 HMN
                    go_wp2
                    go_roundw
                    case rel => exact ⟨t + 1, _, by omega, by go_num, HOF.out, HR9.out, HBF.out⟩
                    case measure => simp [intOf]; omega
              · obtain rfl : W.length = t := by omega
                have hLNe := HLN.out
                rw [List.take_length] at hLNe
                have HLE := Lib.hid hLNe
                have HRT : Hid (∀ x ∈ g.rs, x < (nN : Int) ∧ (x < 0 → x = -1)) := Lib.hid (fun x hx => by have := HMR.out.1 x hx; rw [HNL.out] at this; omega)
                have HWT : Hid (∀ x ∈ g.ws, x < (nN : Int) ∧ (x < 0 → x = -1)) := Lib.hid (fun x hx => by have := HMR.out.2 x hx; rw [HNL.out] at this; omega)
                obtain ⟨wa, rfl⟩ : ∃ wa : World, wa = wr := ⟨_, rfl⟩
                have hsb := HSB.out
                have hlo : w5.heap.size < wa.heap.size := blt HO.out
                clear hLNe hlt hb
                go_wp2
                go_loopw [103] (fun i wr => ∃ (k : Nat) (vr : Value), k ≤ nR ∧ i = .int .i64 (k : Int) ∧ wr.heap[w5.heap.size]? = some (.cells #[.slice A8 LN.length c8, vr, .slice none 0 0] 25 (0, 0)) ∧ wr.ownsRow wa.heap.size 3 1 vr ((g.rs.take k).map (mv pl)).length (((g.rs.take k).map (mv pl)).map (Value.int .i64)) ∧ wa.grownBy wr (some w5.heap.size)) (fun i _ => nR - (intOf i).toNat)
                case atStart => exact ⟨0, _, Nat.zero_le _, rfl, HO.out, own_nil _ _ _, ⟨rfl, rfl, rfl, Nat.le_refl _, fun _ _ _ => rfl⟩⟩
                case round =>
                  clear b0 b1 b2
                  obtain ⟨k1, vr, hk, rfl, hT, ho, hg⟩ := hrel
                  obtain ⟨L1, hL⟩ : ∃ L, (g.rs.take k1).map (mv pl) = L := ⟨_, rfl⟩
                  have hLl : L1.length ≤ 1000 := by rw [← hL]; simp; omega
                  rw [hL] at ho
                  obtain ⟨_, A51, c51, rfl, _⟩ := own_rd ho
                  have HLE1 := Lib.hid hL
                  have HO1 := Lib.hid ho
                  have HG1 := Lib.hid hg
                  have HT1 := Lib.hid hT
                  have HBa1 : Hid (Below w5.heap.size w5 wr) := Lib.hid (HB.out.trans (Tm.below_of_grown hg (Nat.le_refl _) HB.out.size))
                  have hgs := hg.size
                  have HBRW : Hid (Below w.heap.size w wr) := Lib.hid (HB5.out.trans (HBa1.out.mono HB5.out.size))
                  obtain ⟨t0, t1, t2⟩ := Bx3_one hT
                  have tf1 := blk_frozen hT 1
                  have hT3 : w5.heap.size < wr.heap.size := blt hT
                  clear hL ho hg hT
                  by_cases hlt3 : k1 < nR
                  · obtain ⟨ad, rfl, hc⟩ := (HR.out.below HBRW.out.block) k1 (by rw [HLR.out]; exact hlt3)
                    have HTS : Hid ((g.rs.take (k1 + 1)).map (mv pl) = L1 ++ [mv pl (g.rs.getD k1 0)]) := Lib.hid (by rw [take_snoc g.rs 0 k1 (by rw [HLR.out]; exact hlt3), List.map_append, HLE1.out]; rfl)
                    have hx := HRT.out _ (mem_getD (d := (0 : Int)) (show k1 < g.rs.length by rw [HLR.out]; exact hlt3))
                    obtain ⟨x, hxe⟩ : ∃ x, g.rs.getD k1 0 = x := ⟨_, rfl⟩
                    rw [hxe] at hc HTS hx
                    have HA := Lib.hid (HPA.out x wr.drew hx.1 ((HPL.out.below HBa1.out.block).below (fun _ _ => rfl)) hx.2)
                    obtain ⟨y, hy⟩ : ∃ y, mv pl x = y := ⟨_, rfl⟩
                    rw [hy] at HA HTS
                    have HRo : Hid ((Kd.int .i64).R 3 wr.drew wa.heap.size (fun _ => True) (.slice A51 L1.length c51) L1) := Lib.hid (Kd.R_of_own (own_move HO1.out fun _ _ => rfl) fun _ _ => trivial)
                    have HBo : Hid (Below wa.heap.size wr.drew wr.drew) := Lib.hid (Below.refl _ _)
                    have hbo : wa.heap.size ≤ wr.drew.heap.size := hgs
                    clear hxe hy hx
                    go_wp2
                    go_region_law (first
                      | (go_simp; go_at_call 37; refine HA.out.mono ?_; rintro e w6 ⟨rfl, rfl⟩)
                      | (refine Kd.R_append_step (P := Tryd.prog) (Kd.int .i64) (w0 := wr.drew) (W := wr.drew) wa.heap.size (by rfl) (.tmp 108) (.tmp 112) 23 3 (.int .i64 0) 8 (by rfl) Tryd.underlying23 info3 rfl (by decide) (by decide) (.slice A51 L1.length c51) L1 y [.int .i64 y] (fun _ => True) (fun _ => False) (by rfl) (by rfl) rfl (fun _ h => h.elim) (fun _ _ => trivial) HRo.out HBo.out hbo (by omega) ?_; intro v9 w9 hr9 hb9 hg9 hat9; have ho9 := Kd.own_of_R hr9; obtain ⟨_, A6, c6, rfl, _⟩ := own_rd ho9; have hT9 := (hg9.block w5.heap.size (blt HT1.out) (fun e => own_ty HO1.out HT1.out (by decide) e.symm)).trans HT1.out; obtain ⟨q0, q1, q2⟩ := Bx3_one hT9; have qf := blk_frozen hT9 1))
                    all_goals
                      simp only [List.length_append, List.length_cons, List.length_nil, Nat.zero_add] at ho9
                      have HTF : Hid ((w9.setCell ⟨w5.heap.size, 1, none⟩ (.slice A6 (L1.length + 1) c6)).heap[w5.heap.size]? = some (.cells #[.slice A8 LN.length c8, .slice A6 (L1.length + 1) c6, .slice none 0 0] 25 (0, 0))) := Lib.hid (blk_set hT9 1 _)
                      have HOF : Hid ((w9.setCell ⟨w5.heap.size, 1, none⟩ (.slice A6 (L1.length + 1) c6)).ownsRow wa.heap.size 3 1 (.slice A6 (L1.length + 1) c6) ((g.rs.take (k1 + 1)).map (mv pl)).length (((g.rs.take (k1 + 1)).map (mv pl)).map (Value.int .i64))) := Lib.hid (by
                        rw [HTS.out, List.length_append]
                        exact Tm.own_other ho9 hT9 (by decide) (grown_set _ _ _ _))
                      have HGF : Hid (wa.grownBy (w9.setCell ⟨w5.heap.size, 1, none⟩ (.slice A6 (L1.length + 1) c6)) (some w5.heap.size)) := Lib.hid (app_grown HG1.out hb9 (grown_set w9 w5.heap.size 1 (.slice A6 (L1.length + 1) c6)))
                      clear ho9 hr9 hb9 hg9 hat9 hT9
                      go_wp2
                      go_roundw
                      case rel => exact ⟨k1 + 1, _, by omega, by go_num, HTF.out, HOF.out, HGF.out⟩
                      case measure => simp [intOf]; omega
                  · obtain rfl : nR = k1 := by omega
                    have hle := HLE1.out
                    rw [List.take_of_length_le (by rw [HLR.out]; exact Nat.le_refl _)] at hle
                    have HLR1 := Lib.hid hle
                    have hbx := (HBa1.out.block _ (blt HX5.out)).trans HX5.out
                    obtain ⟨u0, u1, u2⟩ := Bx3_one hbx
                    obtain ⟨wb, rfl⟩ : ∃ wb : World, wb = wr := ⟨_, rfl⟩
                    have hT4 : w5.heap.size < wb.heap.size := hT3
                    clear hle t0 t1 t2 tf1 hbx hT3 hk hlt3 hgs HBRW
                    go_wp2
                    go_loopw [119] (fun i wr => ∃ (k : Nat) (vr : Value), k ≤ nW ∧ i = .int .i64 (k : Int) ∧ wr.heap[w5.heap.size]? = some (.cells #[.slice A8 LN.length c8, .slice A51 L1.length c51, vr] 25 (0, 0)) ∧ wr.ownsRow wb.heap.size 3 1 vr ((g.ws.take k).map (mv pl)).length (((g.ws.take k).map (mv pl)).map (Value.int .i64)) ∧ wb.grownBy wr (some w5.heap.size)) (fun i _ => nW - (intOf i).toNat)
                    case atStart => exact ⟨0, _, Nat.zero_le _, rfl, HT1.out, own_nil _ _ _, ⟨rfl, rfl, rfl, Nat.le_refl _, fun _ _ _ => rfl⟩⟩
                    case round =>
                      clear u0 u1 u2
                      obtain ⟨k2, vr, hk, rfl, hT, ho, hg⟩ := hrel
                      obtain ⟨L2, hL⟩ : ∃ L, (g.ws.take k2).map (mv pl) = L := ⟨_, rfl⟩
                      have hLl : L2.length ≤ 1000 := by rw [← hL]; simp; omega
                      rw [hL] at ho
                      obtain ⟨_, A52, c52, rfl, _⟩ := own_rd ho
                      have HLE2 := Lib.hid hL
                      have HO2 := Lib.hid ho
                      have HG2 := Lib.hid hg
                      have HT2 := Lib.hid hT
                      have HBa2 : Hid (Below w5.heap.size w5 wr) := Lib.hid (HBa1.out.trans (Tm.below_of_grown hg (Nat.le_refl _) HBa1.out.size))
                      have hgs := hg.size
                      have HBRW : Hid (Below w.heap.size w wr) := Lib.hid (HB5.out.trans (HBa2.out.mono HB5.out.size))
                      obtain ⟨t0, t1, t2⟩ := Bx3_one hT
                      have tf1 := blk_frozen hT 2
                      have hT3 : w5.heap.size < wr.heap.size := blt hT
                      clear hL ho hg hT
                      by_cases hlt3 : k2 < nW
                      · obtain ⟨ad, rfl, hc⟩ := (HW.out.below HBRW.out.block) k2 (by rw [HLW.out]; exact hlt3)
                        have HTS : Hid ((g.ws.take (k2 + 1)).map (mv pl) = L2 ++ [mv pl (g.ws.getD k2 0)]) := Lib.hid (by rw [take_snoc g.ws 0 k2 (by rw [HLW.out]; exact hlt3), List.map_append, HLE2.out]; rfl)
                        have hx := HWT.out _ (mem_getD (d := (0 : Int)) (show k2 < g.ws.length by rw [HLW.out]; exact hlt3))
                        obtain ⟨x, hxe⟩ : ∃ x, g.ws.getD k2 0 = x := ⟨_, rfl⟩
                        rw [hxe] at hc HTS hx
                        have HA := Lib.hid (HPA.out x wr.drew hx.1 ((HPL.out.below HBa2.out.block).below (fun _ _ => rfl)) hx.2)
                        obtain ⟨y, hy⟩ : ∃ y, mv pl x = y := ⟨_, rfl⟩
                        rw [hy] at HA HTS
                        have HRo : Hid ((Kd.int .i64).R 3 wr.drew wb.heap.size (fun _ => True) (.slice A52 L2.length c52) L2) := Lib.hid (Kd.R_of_own (own_move HO2.out fun _ _ => rfl) fun _ _ => trivial)
                        have HBo : Hid (Below wb.heap.size wr.drew wr.drew) := Lib.hid (Below.refl _ _)
                        have hbo : wb.heap.size ≤ wr.drew.heap.size := hgs
                        clear hxe hy hx
                        go_wp2
                        go_region_law (first
                          | (go_simp; go_at_call 37; refine HA.out.mono ?_; rintro e w6 ⟨rfl, rfl⟩)
                          | (refine Kd.R_append_step (P := Tryd.prog) (Kd.int .i64) (w0 := wr.drew) (W := wr.drew) wb.heap.size (by rfl) (.tmp 124) (.tmp 128) 23 3 (.int .i64 0) 8 (by rfl) Tryd.underlying23 info3 rfl (by decide) (by decide) (.slice A52 L2.length c52) L2 y [.int .i64 y] (fun _ => True) (fun _ => False) (by rfl) (by rfl) rfl (fun _ h => h.elim) (fun _ _ => trivial) HRo.out HBo.out hbo (by omega) ?_; intro v9 w9 hr9 hb9 hg9 hat9; have ho9 := Kd.own_of_R hr9; obtain ⟨_, A6, c6, rfl, _⟩ := own_rd ho9; have hT9 := (hg9.block w5.heap.size (blt HT2.out) (fun e => own_ty HO2.out HT2.out (by decide) e.symm)).trans HT2.out; obtain ⟨q0, q1, q2⟩ := Bx3_one hT9; have qf := blk_frozen hT9 2))
                        all_goals
                          simp only [List.length_append, List.length_cons, List.length_nil, Nat.zero_add] at ho9
                          have HTF : Hid ((w9.setCell ⟨w5.heap.size, 2, none⟩ (.slice A6 (L2.length + 1) c6)).heap[w5.heap.size]? = some (.cells #[.slice A8 LN.length c8, .slice A51 L1.length c51, .slice A6 (L2.length + 1) c6] 25 (0, 0))) := Lib.hid (blk_set hT9 2 _)
                          have HOF : Hid ((w9.setCell ⟨w5.heap.size, 2, none⟩ (.slice A6 (L2.length + 1) c6)).ownsRow wb.heap.size 3 1 (.slice A6 (L2.length + 1) c6) ((g.ws.take (k2 + 1)).map (mv pl)).length (((g.ws.take (k2 + 1)).map (mv pl)).map (Value.int .i64))) := Lib.hid (by
                            rw [HTS.out, List.length_append]
                            exact Tm.own_other ho9 hT9 (by decide) (grown_set _ _ _ _))
                          have HGF : Hid (wb.grownBy (w9.setCell ⟨w5.heap.size, 2, none⟩ (.slice A6 (L2.length + 1) c6)) (some w5.heap.size)) := Lib.hid (app_grown HG2.out hb9 (grown_set w9 w5.heap.size 2 (.slice A6 (L2.length + 1) c6)))
                          clear ho9 hr9 hb9 hg9 hat9 hT9
                          go_wp2
                          go_roundw
                          case rel => exact ⟨k2 + 1, _, by omega, by go_num, HTF.out, HOF.out, HGF.out⟩
                          case measure => simp [intOf]; omega
                      · obtain rfl : nW = k2 := by omega
                        have hle := HLE2.out
                        rw [List.take_of_length_le (by rw [HLW.out]; exact Nat.le_refl _)] at hle
                        have hlt9 : trimL g = ⟨LN, L1, L2⟩ := by rw [HT.out]; unfold trimW movedL; rw [HNL.out, HPE.out, HLE.out, HLR1.out, hle]
                        have HLT := Lib.hid hlt9
                        have hres := (HBa2.out.block (w.heap.size + 1) (by omega)).trans HRes5.out
                        have HRes := Lib.hid hres
                        have g0 := blk_frozen hres 0
                        have g1 := blk_frozen hres 1
                        have g2 := blk_frozen hres 2
                        obtain ⟨r0, r1, r2⟩ := Bx3_one hres
                        obtain ⟨w10, hw10, h10, hg10⟩ := Tm.set3 hres (.slice A8 LN.length c8) (.slice A51 L1.length c51) (.slice A52 L2.length c52)
                        obtain ⟨j0, j1, j2⟩ := Bx3_one h10
                        have HRW := Tm.R2.other (Tm.R2.other (Tm.R2.other HR2.out HO.out (by decide) HG1.out) HT1.out (by decide) HG2.out) HRes.out (by decide) hg10
                        have HCap : Hid (LN.length ≤ c8) := Lib.hid (by
                          obtain ⟨A', c', e, hl, _⟩ := HRW.reads
                          have e3 : c8 = c' := by injection e
                          rw [e3]
                          exact hl)
                        have HNV := Lib.hid (Tm.nv_stable HRW (fun _ _ _ => rfl))
                        have h4 := Tm.own_other (Tm.own_other HO1.out HT1.out (by decide) HG2.out) HRes.out (by decide) hg10
                        have h5 := Tm.own_other HO2.out HRes.out (by decide) hg10
                        have HRA := Lib.hid (Tm.own_rdA h4)
                        have HRB := Lib.hid (Tm.own_rdA h5)
                        have HC4 := Lib.hid (Tm.own_cap h4)
                        have HC5 := Lib.hid (Tm.own_cap h5)
                        have HBF : Hid (Below w.heap.size w w10) := Lib.hid (HBRW.out.trans (Tm.below_of_grown hg10 (by omega) HBRW.out.size))
                        have HGF : Hid (GAt w10 (.agg #[.slice A8 LN.length c8, .slice A51 L1.length c51, .slice A52 L2.length c52]) (trimL g)) := Lib.hid (by rw [HLT.out]; exact ⟨A8, c8, A51, c51, A52, c52, rfl, HCap.out, HC4.out, HC5.out, HNV.out, HRA.out, HRB.out⟩)
                        clear hle hlt9 hres h10 hg10 HRW h4 h5
                        go_wp2
                        try rw [hw10]
                        exact bodyPost_ret (v := .agg #[.slice A8 LN.length c8, .slice A51 L1.length c51, .slice A52 L2.length c52]) (by simp [results, Tryd.results14, go_sem, j0, j1, j2]) rfl ⟨_, rfl, HGF.out, HBF.out⟩
end Go.Proofs.YtdgclpgjoanimaaDoor.Rt
