/- Trim walked. -/
import Derived.Test.YtdgclpgjoanimaaDoorTr
namespace Go.Proofs.YtdgclpgjoanimaaDoor.Tm
open Go.RowKit Go.ChangeShapes Go.WideShapes Go.Proofs.YtdgclpgjoanimaaDoorW.PrintWords Go.Proofs.YtdgclpgjoanimaaDoor.Ba Go.Proofs.YtdgclpgjoanimaaDoor.Ma Go.Proofs.YtdgclpgjoanimaaDoor.Mb Go.Proofs.YtdgclpgjoanimaaDoor.Pu Go.Proofs.YtdgclpgjoanimaaDoor.Wa Go.Proofs.YtdgclpgjoanimaaDoor.To Go.Proofs.YtdgclpgjoanimaaDoor.Tr
set_option linter.unusedVariables false
theorem set3 {w : World} {b t : Nat} {x y z : Value} (h : w.heap[b]? = some (.cells #[x, y, z] t (0, 0))) (x' y' z' : Value) :
    ∃ w9, ((w.setCell ⟨b, 0, none⟩ x').setCell ⟨b, 1, none⟩ y').setCell ⟨b, 2, none⟩ z' = w9 ∧ w9.heap[b]? = some (.cells #[x', y', z'] t (0, 0)) ∧ w.grownBy w9 (some b) := by
  refine ⟨_, rfl, ?_, grown_trans (grown_trans (grown_set w b 0 x') (grown_set _ b 1 y')) (grown_set _ b 2 z')⟩
  have h1 := blk_set h 0 x'
  have h2 := blk_set h1 1 y'
  have h3 := blk_set h2 2 z'
  exact h3
theorem gat_nil (w : World) : GAt w (.agg #[.slice none 0 0, .slice none 0 0, .slice none 0 0]) ⟨[], [], []⟩ :=
  ⟨none, 0, none, 0, none, 0, rfl, Nat.le_refl _, Nat.le_refl _, Nat.le_refl _, fun i hi => by simp at hi, fun i hi => by simp at hi, fun i hi => by simp at hi⟩
theorem below_of_grown {B g : Nat} {w w' : World} (h : w.grownBy w' (some g)) (hg : B ≤ g) (hB : B ≤ w.heap.size) : Below B w w' :=
  ⟨h.os, h.tape, h.output, h.size, fun j hj => h.block j (by omega) (fun e => by injection e with e; omega)⟩
/-- What Trim answers lies in blocks of its own. -/
def TrimPostF (g : G3) (w : World) (e : Ending) (w' : World) : Prop := ∃ v, e = .returned v ∧ GAt w' v (trimL g) ∧ (∀ W : World, (∀ k, w.heap.size ≤ k → k < w'.heap.size → W.heap[k]? = w'.heap[k]?) → GAt W v (trimL g)) ∧ Below w.heap.size w w'
theorem nv_stable {w W : World} {base : Nat} {A : Option Addr} {c : Nat} {n : Nat} {l : List N2} (h : R2 w base (.slice A n c) l) (hk : ∀ k, base ≤ k → k < w.heap.size → W.heap[k]? = w.heap[k]?) : Nv W A l := by
  have h1 := Kd.R_move (Kd.R_bound h) (fun k hkk => hk k hkk.2.1 hkk.2.2.1)
  obtain ⟨A', c', e, _, hC⟩ := Kd.R_reads h1
  injection e with e
  rw [e]
  exact nd_C hC (Nat.le_refl _)
theorem R2.other {w w' : World} {base : Nat} {v : Value} {l : List N2} (h : R2 w base v l) {g t : Nat} {cs : Array Value} (hb : w.heap[g]? = some (.cells cs t (0, 0))) (ht : ∀ q, q ∈ 33 :: k2.E → q ≠ t) (hg : w.grownBy w' (some g)) : R2 w' base v l :=
  Kd.R_mono (Kd.R_grown (Kd.R_types h hb ht) hg (fun k hk e => hk.2 (by injection e))) (fun _ hk => hk.1)
theorem own_other {w w' : World} {base n size : Nat} {e t : TypeId} {v : Value} {xs : List Value} (h : w.ownsRow base e size v n xs) {g : Nat} {cs : Array Value} (hb : w.heap[g]? = some (.cells cs t (0, 0))) (ht : e ≠ t) (hg : w.grownBy w' (some g)) : w'.ownsRow base e size v n xs :=
  own_move h fun k hk => hg.block k (h.lt k hk).2 (fun e1 => own_ty h hb ht (by rw [hk, e1]))
theorem own_cap {w : World} {base n : Nat} {A : Option Addr} {m c : Nat} {xs : List Value} (h : w.ownsRow base 3 1 (.slice A m c) n xs) : n ≤ c := by
  rcases h.2 with ⟨e, h0⟩ | ⟨g, cap, cur, e, _, _, h1, _⟩
  · omega
  · injection e with _ _ e
    omega
theorem own_rdA {w : World} {base n : Nat} {A : Option Addr} {m c : Nat} {l : List Int} (h : w.ownsRow base 3 1 (.slice A m c) n (l.map (Value.int .i64))) : Rd w A l := by
  obtain ⟨_, A', c', e, hr⟩ := own_rd h
  injection e with e
  rw [e]
  exact hr
set_option maxHeartbeats 16000000 in
set_option maxRecDepth 100000 in
theorem trim_fresh (v : Value) (g : G3) (w : World) (h : GAt w v g) (hz : Sz g) : Calls Tryd.prog 9 #[v] w (TrimPostF g w) := by
  have HG := Lib.hid h
  obtain ⟨AN, cN, AR, cR, AW, cW, rfl, _, _, _, hN, hR, hW⟩ := h
  have HN := Lib.hid hN
  have HR := Lib.hid hR
  have HW := Lib.hid hW
  have HZ := Lib.hid hz.f
  have z1 := hz.r
  have z2 := hz.s
  have hz25 : ∀ w, (zeroValue 25).run Tryd.prog w = .ok (.agg #[.slice none 0 0, .slice none 0 0, .slice none 0 0]) w := fun w => by kernel_rfl
  have hz34 : ∀ w, (zeroValue 33).run Tryd.prog w = .ok (.agg #[.int .i64 0, .slice none 0 0]) w := fun w => by kernel_rfl
  obtain ⟨nN, hnN⟩ : ∃ n, g.ns.length = n := ⟨_, rfl⟩
  have HNL := Lib.hid hnN
  obtain ⟨nR, hnR⟩ : ∃ n, g.rs.length = n := ⟨_, rfl⟩
  have HLR := Lib.hid hnR
  obtain ⟨nW, hnW⟩ : ∃ n, g.ws.length = n := ⟨_, rfl⟩
  have HLW := Lib.hid hnW
  rw [hnN, hnR, hnW] at HG ⊢
  rw [hnR] at z1
  rw [hnW] at z2
  obtain ⟨w0, hw0⟩ : ∃ w0, (w.alloc (.cells #[.slice AN nN cN, .slice AR nR cR, .slice AW nW cW] 25)).alloc (.cells #[.slice none 0 0, .slice none 0 0, .slice none 0 0] 25) = w0 := ⟨_, rfl⟩
  have hs0 : w0.heap.size = w.heap.size + 1 + 1 := by rw [← hw0, size_al, size_al]
  have HS0 := Lib.hid hs0
  have HB0 : Hid (Below w.heap.size w w0) := Lib.hid (by rw [← hw0]; exact ((Below.refl _ _).alloc (Nat.le_refl _) _).alloc (by simp) _)
  have HX0 : Hid (Bx3 w0 w.heap.size AN nN cN AR nR cR AW nW cW) := Lib.hid (by
    rw [← hw0]
    exact (((Below.refl (w.heap.size + 1) _).alloc (by simp) _).block w.heap.size (by omega)).trans (heap_alloc_new w _))
  have HRes0 : Hid (w0.heap[w.heap.size + 1]? = some (.cells #[.slice none 0 0, .slice none 0 0, .slice none 0 0] 25 (0, 0))) := Lib.hid (by
    rw [← hw0, ← size_al w (.cells #[.slice AN nN cN, .slice AR nR cR, .slice AW nW cW] 25)]; exact heap_alloc_new _ _)
  have HM := Lib.hid (may_any _ g w0 (HG.out.below HB0.out) hz)
  have HGB := Lib.hid (HG.out.below HB0.out)
  obtain ⟨b0, b1, b2⟩ := HX0.out.cells
  clear hN hR hW hs0
  cases em : mayG g
  · have HT : Hid (trimL g = ⟨[], [], []⟩) := Lib.hid (by unfold trimL; rw [em]; rfl)
    rw [em] at HM
    clear em
    go_enter Tryd.func9, Tryd.ntmps9
    go_wp2_with fail
    refine HM.out.mono ?_
    rintro e w1 ⟨rfl, hb⟩
    have HB1 := Lib.hid (HB0.out.trans (hb.mono HB0.out.size))
    have HRes := (hb.block (w.heap.size + 1) (by rw [HS0.out]; omega)).trans HRes0.out
    obtain ⟨r0, r1, r2⟩ := Bx3_one HRes
    have f0 := blk_frozen HRes 0
    have f1 := blk_frozen HRes 1
    have f2 := blk_frozen HRes 2
    have HBS := hb.size
    rw [HS0.out] at HBS
    obtain ⟨w9, hw9, h9, hg9⟩ := set3 HRes (.slice none 0 0) (.slice none 0 0) (.slice none 0 0)
    have HB9 : Hid (Below w.heap.size w w9) := Lib.hid (HB1.out.trans (below_of_grown hg9 (by omega) (by omega)))
    obtain ⟨c0, c1, c2⟩ := Bx3_one h9
    clear hb HRes h9 hg9
    go_wp2
    try rw [hw9]
    exact bodyPost_ret (v := .agg #[.slice none 0 0, .slice none 0 0, .slice none 0 0]) (by simp [results, Tryd.results9, go_sem, c0, c1, c2]) rfl ⟨_, rfl, by rw [HT.out]; exact gat_nil _, fun W _ => by rw [HT.out]; exact gat_nil _, HB9.out⟩
  · have HT : Hid (trimL g = trimW g (walkL g g.rs)) := Lib.hid (by unfold trimL; rw [em]; rfl)
    have HMF := Lib.hid (may_fields em)
    have HMR := Lib.hid (may_roots em)
    have hn := Re.may_len em
    rw [hnN] at hn
    rw [em] at HM
    have hmk := print_make (P := Tryd.prog) 23 3 .i64 8 Tryd.underlying23 info3 (by decide) nN (by omega)
    have HGD := Lib.hid (gd_walk g g.rs)
    obtain ⟨W, hWe⟩ : ∃ W, walkL g g.rs = W := ⟨_, rfl⟩
    have HWE := Lib.hid hWe
    rw [hWe] at HT HGD
    rw [hnN] at HGD
    have hWl := gd_le HGD.out
    clear em hnN hnR hnW hWe
    go_enter Tryd.func9, Tryd.ntmps9
    go_wp2_with fail
    refine HM.out.mono ?_
    rintro e w1 ⟨rfl, hb⟩
    have hx1 := HX0.out.below hb
    obtain ⟨b0, b1, b2⟩ := hx1.cells
    have HX1 := Lib.hid hx1
    have HB1 := Lib.hid (HB0.out.trans (hb.mono HB0.out.size))
    have HRes1 : Hid (w1.heap[w.heap.size + 1]? = _) := Lib.hid ((hb.block (w.heap.size + 1) (by rw [HS0.out]; omega)).trans HRes0.out)
    have hs1 : w.heap.size + 1 + 1 ≤ w1.heap.size := by have := hb.size; rw [HS0.out] at this; exact this
    have HWK : Hid (Calls Tryd.prog 23 #[.agg #[.slice AN nN cN, .slice AR nR cR, .slice AW nW cW], .slice AR nR cR] w1 (Own w1 W)) := Lib.hid (by
      have := Wk.walk_any _ g AR cR g.rs w1 (HGB.out.below hb) hz (by rw [HNL.out]; exact hn) ((HR.out.below HB0.out.block).below hb.block) (by rw [HLR.out]; omega)
      rw [HWE.out, HLR.out] at this
      exact this)
    clear hb hx1
    go_wp2_with fail
    refine HWK.out.mono ?_
    rintro e w2 ⟨v2, rfl, ho2, hb2⟩
    obtain ⟨_, A5, c5, rfl, hrd2⟩ := own_rd ho2
    have hx2 := HX1.out.below hb2
    obtain ⟨b0, b1, b2⟩ := hx2.cells
    have HX2 := Lib.hid hx2
    have HB2 := Lib.hid (HB1.out.trans (hb2.mono HB1.out.size))
    have HRes2 : Hid (w2.heap[w.heap.size + 1]? = _) := Lib.hid ((hb2.block (w.heap.size + 1) (by omega)).trans HRes1.out)
    have hs2 : w.heap.size + 1 + 1 ≤ w2.heap.size := by have := hb2.size; omega
    have HRD2 := Lib.hid hrd2
    have HROW := Lib.hid (made_neg (w := w2) (n := nN))
    have HBM := Lib.hid ((Below.refl w2.heap.size w2).alloc (Nat.le_refl _) (.cells (madeCells #[.int .i64 0] nN) 3))
    clear ho2 hrd2 hb2 hx2
    go_wp2
    go_loopw [28] (fun i wr => ∃ t : Nat, t ≤ nN ∧ i = .int .i64 (t : Int) ∧ wr.rowIs w2.heap.size 3 nN (negF t) ∧ Below w2.heap.size w2 wr) (fun i _ => nN - (intOf i).toNat)
    case atStart => exact ⟨0, Nat.zero_le _, rfl, HROW.out, HBM.out⟩
    case round =>
      obtain ⟨t, ht, rfl, hrow, hb⟩ := hrel
      have HRW := Lib.hid hrow
      have HB := Lib.hid hb
      have hbs := hb.size
      by_cases hlt : t < nN
      · have c1 := hrow.cell hlt
        have f1 := hrow.frozen t
        obtain ⟨y, hy⟩ : ∃ y : Int, negF t t = .int .i64 y := ⟨_, rfl⟩
        rw [hy] at c1
        obtain ⟨w4, hw4⟩ : ∃ w4, wr.setCell ⟨w2.heap.size, t, none⟩ (.int .i64 (-1)) = w4 := ⟨_, rfl⟩
        have HR4 : Hid (w4.rowIs w2.heap.size 3 nN (negF (t + 1))) := Lib.hid (by rw [← hw4]; exact neg_step HRW.out)
        have HB4 : Hid (Below w2.heap.size w2 w4) := Lib.hid (HB.out.trans (below_of_grown (by rw [← hw4]; exact grown_set _ _ _ _) (Nat.le_refl _) hbs))
        clear hrow hb hy
        go_wp2
        go_roundw
        case rel => exact ⟨t + 1, by omega, by go_num, HR4.out, HB4.out⟩
        case measure => simp [intOf]; omega
      · obtain rfl : nN = t := by omega
        have HRW2 := Lib.hid (neg_place HRW.out)
        have HRD3 := Lib.hid (HRD2.out.below HB.out.block)
        clear hrow hb HRW hlt
        obtain ⟨w3, rfl⟩ : ∃ w3 : World, w3 = wr := ⟨_, rfl⟩
        go_wp2
        go_loopw [37] (fun i wr => ∃ t : Nat, t ≤ W.length ∧ i = .int .i64 (t : Int) ∧ wr.rowIs w2.heap.size 3 nN (plF (W.take t)) ∧ Below w2.heap.size w2 wr) (fun i _ => W.length - (intOf i).toNat)
        case atStart => exact ⟨0, Nat.zero_le _, rfl, HRW2.out, HB.out⟩
        case round =>
          obtain ⟨t, ht, rfl, hrow, hb⟩ := hrel
          have HRW := Lib.hid hrow
          have HBB := Lib.hid hb
          have hbs3 := hb.size
          by_cases hlt : t < W.length
          · obtain ⟨ad, rfl, hc⟩ := (HRD2.out.below hb.block) t hlt
            have hx := HGD.out.2 _ (mem_getD (d := (0 : Int)) hlt)
            obtain ⟨y, hy⟩ : ∃ y, W.getD t 0 = y := ⟨_, rfl⟩
            rw [hy] at hc hx
            obtain ⟨hx0, hx1⟩ := isB_iff.1 hx
            obtain ⟨k, rfl⟩ : ∃ k : Nat, y = (k : Int) := ⟨y.toNat, by omega⟩
            have hk : k < nN := by omega
            have c1 := hrow.cell hk
            have f1 := hrow.frozen k
            obtain ⟨w4, hw4⟩ : ∃ w4, wr.setCell ⟨w2.heap.size, k, none⟩ (.int .i64 (t : Int)) = w4 := ⟨_, rfl⟩
            have HR4 : Hid (w4.rowIs w2.heap.size 3 nN (plF (W.take (t + 1)))) := Lib.hid (by rw [← hw4]; exact place_step HRW.out HGD.out.1 hlt hy)
            have HB4 : Hid (Below w2.heap.size w2 w4) := Lib.hid (HBB.out.trans (below_of_grown (by rw [← hw4]; exact grown_set _ _ _ _) (Nat.le_refl _) hbs3))
            unfold plF at c1
            clear hrow hb hx hy
            go_wp2
            go_roundw
            case rel => exact ⟨t + 1, by omega, by go_num, HR4.out, HB4.out⟩
            case measure => simp [intOf]; omega
          · obtain rfl : t = W.length := by omega
            have hrw := HRW.out
            rw [List.take_length] at hrw
            have HPL := Lib.hid (place_rd hrw)
            have HPLT := Lib.hid hrw.lt
            have hx5 := HX2.out.below hb
            have HX5 := Lib.hid hx5
            have HB5 := Lib.hid (HB2.out.trans (hb.mono HB2.out.size))
            have HRes5 : Hid (wr.heap[w.heap.size + 1]? = _) := Lib.hid ((hb.block (w.heap.size + 1) (by omega)).trans HRes2.out)
            have HRD5 := Lib.hid (HRD2.out.below hb.block)
            obtain ⟨w5, rfl⟩ : ∃ w5 : World, w5 = wr := ⟨_, rfl⟩
            clear hrow hb hrw HRW hlt HRW2 HRD3 hx5 HB HBB b0 b1 b2
            obtain ⟨pl, hpl⟩ : ∃ pl, placeL nN W = pl := ⟨_, rfl⟩
            have hpll : pl.length = nN := by rw [← hpl, placeL_len]
            have HPE := Lib.hid hpl
            rw [hpl] at HPL
            have HTOLD : Hid (∀ (v : V5) (W' : World), Rd W' (some ⟨w2.heap.size, 0, none⟩) pl → (v.kd = 3 → 0 ≤ v.ref ∧ v.ref < (nN : Int)) → Calls Tryd.prog 24 #[agg5 v, .slice (some ⟨w2.heap.size, 0, none⟩) nN nN] W' (ToldPost pl v W')) := Lib.hid (fun v W' h1 h2 => by
              have := told_any v (some ⟨w2.heap.size, 0, none⟩) nN pl W' h1 (by rw [hpll]; exact h2) (by omega)
              rw [hpll] at this
              exact this)
            have HMV : Hid (∀ (A : Option Addr) (c : Nat) (l : List Int) (W' : World), Rd W' A l → Rd W' (some ⟨w2.heap.size, 0, none⟩) pl → (∀ x ∈ l, x < (nN : Int)) → l.length ≤ 1000 → Calls Tryd.prog 25 #[.slice A l.length c, .slice (some ⟨w2.heap.size, 0, none⟩) nN nN] W' (Own W' (movedL pl l))) := Lib.hid (fun A c l W' h1 h2 h3 h4 => by
              have := moved_any A (some ⟨w2.heap.size, 0, none⟩) c nN l pl W' h1 h2 (by rw [hpll]; exact h3) (by omega) (by omega)
              rw [hpll] at this
              exact this)
            clear hpl hpll
            have HSB : Hid (w.heap.size + 1 + 1 ≤ w5.heap.size) := Lib.hid (by omega)
            go_wp2
            go_loopw [49] (fun i wr => ∃ (t : Nat) (vN : Value), t ≤ W.length ∧ i = .int .i64 (t : Int) ∧ wr.heap[w5.heap.size]? = some (.cells #[vN, .slice none 0 0, .slice none 0 0] 25 (0, 0)) ∧ R2 wr w5.heap.size vN ((W.take t).map (nodeT g pl)) ∧ Below w5.heap.size w5 wr) (fun i _ => W.length - (intOf i).toNat)
            case atStart => exact ⟨0, _, Nat.zero_le _, rfl, heap_alloc_new w5 _, R2.nil _ _, (Below.refl _ _).alloc (Nat.le_refl _) _⟩
            case round =>
              obtain ⟨t, vN, ht, rfl, hO, hR2, hb⟩ := hrel
              obtain ⟨LN, hLN⟩ : ∃ LN, (W.take t).map (nodeT g pl) = LN := ⟨_, rfl⟩
              have hLNl : LN.length ≤ 4096 := by rw [← hLN]; simp; omega
              rw [hLN] at hR2
              obtain ⟨A8, c8, rfl, _, _⟩ := hR2.reads
              have HO := Lib.hid hO
              have HR2 := Lib.hid hR2
              have HB := Lib.hid hb
              have HLN := Lib.hid hLN
              have hbs5 := hb.size
              have HBW : Hid (Below w.heap.size w wr) := Lib.hid (HB5.out.trans (hb.mono HB5.out.size))
              have hx := (hb.block _ (blt HX5.out)).trans HX5.out
              obtain ⟨b0, b1, b2⟩ := Bx3_one hx
              have HPW := Lib.hid (HPL.out.below hb.block)
              clear hO hR2 hLN
              by_cases hlt : t < W.length
              · obtain ⟨ad, rfl, hc⟩ := (HRD5.out.below hb.block) t hlt
                have hx := HGD.out.2 _ (mem_getD (d := (0 : Int)) hlt)
                have HTK : Hid ((W.take (t + 1)).map (nodeT g pl) = LN ++ [nodeT g pl (W.getD t 0)]) := Lib.hid (by rw [take_snoc W 0 t hlt, List.map_append, HLN.out]; rfl)
                obtain ⟨y, hy⟩ : ∃ y, W.getD t 0 = y := ⟨_, rfl⟩
                rw [hy] at hc hx HTK
                obtain ⟨hx0, hx1⟩ := isB_iff.1 hx
                obtain ⟨k, rfl⟩ : ∃ k : Nat, y = (k : Int) := ⟨y.toNat, by omega⟩
                have hk : k < nN := by omega
                have hk' : k < g.ns.length := by rw [HNL.out]; exact hk
                obtain ⟨ad2, rfl, y0, A7, c7, y1, _, hfv⟩ := HN.out k hk'
                have y0 := cell_old y0 HBW.out.block
                have y1 := cell_old y1 HBW.out.block
                have hmem := mem_getD (d := zN) hk'
                have hzl := HZ.out _ hmem
                have HNT : Hid (nodeT g pl (k : Int) = ⟨(g.ns.getD k zN).kd, (g.ns.getD k zN).fs.map (toldP pl)⟩) := Lib.hid (by unfold nodeT nd; rw [Int.toNat_natCast])
                have HFF := Lib.hid (HMF.out _ hmem)
                rw [HNL.out] at HFF
                obtain ⟨xn, hxn⟩ : ∃ x, g.ns.getD k zN = x := ⟨_, rfl⟩
                rw [hxn] at y0 y1 hfv hzl HNT HFF
                obtain ⟨x0, f0⟩ := xn
                dsimp only at y0 y1 hfv hzl HNT HFF
                rw [HNT.out] at HTK
                have HFV := Lib.hid hfv
                obtain ⟨ws, rfl⟩ : ∃ ws : World, ws = wr := ⟨_, rfl⟩
                have HXN : Hid ((ws.alloc (.cells #[.int .i64 x0, .slice none 0 0] 33)).heap[ws.heap.size]? = some (.cells #[.int .i64 x0, .slice none 0 0] 33 (0, 0))) := Lib.hid (heap_alloc_new ws _)
                have HBX := Lib.hid ((Below.refl ws.heap.size ws).alloc (Nat.le_refl _) (.cells #[.int .i64 x0, .slice none 0 0] 33))
                have z0 := cell_old y0 HBX.out.block
                have z1' := cell_old y1 HBX.out.block
                obtain ⟨d0, d1, d2⟩ := Bx3_one (show (ws.alloc (.cells #[.int .i64 x0, .slice none 0 0] 33)).heap[w.heap.size]? = _ from (HBX.out.block _ (by omega)).trans ((hb.block _ (blt HX5.out)).trans HX5.out))
                clear hb hy hx hxn hfv hmem HNT
                go_wp2
                go_loopw [67] (fun i wr => ∃ (u : Nat) (v7 : Value), u ≤ f0.length ∧ i = .int .i64 (u : Int) ∧ wr.heap[ws.heap.size]? = some (.cells #[.int .i64 x0, v7] 33 (0, 0)) ∧ R5 wr ws.heap.size v7 ((f0.take u).map (toldP pl)) ∧ Below ws.heap.size ws wr) (fun i _ => f0.length - (intOf i).toNat)
                case atStart => exact ⟨0, _, Nat.zero_le _, rfl, HXN.out, R5.nil _ _, HBX.out⟩
                case round =>
                  clear z0 z1' d0 d1 d2 y0 y1 b0 b1 b2 HXN HBX hc
                  obtain ⟨u, v7, hu, rfl, hX, hR5, hb⟩ := hrel
                  obtain ⟨L7, hL7⟩ : ∃ L, (f0.take u).map (toldP pl) = L := ⟨_, rfl⟩
                  have hL7l : L7.length ≤ 1000 := by rw [← hL7]; simp; omega
                  rw [hL7] at hR5
                  obtain ⟨A9, c9, rfl, _, _⟩ := hR5.reads
                  obtain ⟨x1, x2⟩ := two_cells hX
                  have fz1 := blk_frozen hX 1
                  have HX := Lib.hid hX
                  have HR5 := Lib.hid hR5
                  have HBS := Lib.hid hb
                  have HL7 := Lib.hid hL7
                  have hbs7 := hb.size
                  clear hX hR5 hL7
                  by_cases hlt2 : u < f0.length
                  · obtain ⟨ad3, rfl, hc⟩ := (HFV.out.old (HBW.out.trans (hb.mono HBW.out.size)).block) u hlt2
                    have HE : Hid ((f0.take (u + 1)).map (toldP pl) = L7 ++ [toldP pl (f0.getD u z5)]) := Lib.hid (by rw [take_snoc f0 z5 u hlt2, List.map_append, HL7.out]; rfl)
                    have HK3 := Lib.hid (HFF.out _ (mem_getD (d := z5) hlt2))
                    obtain ⟨x, hx⟩ : ∃ x, f0.getD u z5 = x := ⟨_, rfl⟩
                    rw [hx] at hc HE HK3
                    clear hx
                    obtain ⟨p0, p1, p2, p3, p4⟩ := hc
                    obtain ⟨e0, e1, e2, e3, e4⟩ := x
                    dsimp only at p0 p1 p2 p3 p4 HK3
                    have HT1 := Lib.hid (fun W' h1 => HTOLD.out ⟨e0, e1, e2, e3, e4⟩ W' h1 HK3.out)
                    obtain ⟨⟨t0, t1, t2, t3, t4⟩, hy⟩ : ∃ y, toldP pl ⟨e0, e1, e2, e3, e4⟩ = y := ⟨_, rfl⟩
                    unfold ToldPost at HT1
                    rw [hy] at HT1 HE
                    unfold agg5 at HT1
                    dsimp only at HT1
                    have hbd : Below wr.heap.size wr (wr.alloc (.cells #[.int .i64 e0, .int .i64 e1, .int .u64 e2, .int .u64 e3, .int .i64 e4] 36)).drew := ((Below.refl _ _).alloc (Nat.le_refl _) _).drew
                    have HXD := Lib.hid ((hbd.block ws.heap.size (blt HX.out)).trans HX.out)
                    have HRD := Lib.hid (HR5.out.below hbd)
                    have HBD := Lib.hid (HBS.out.trans (hbd.mono hbs7))
                    have HPD := Lib.hid ((HPW.out.below HBS.out.block).below hbd.block)
                    have HYD : Hid (Bx5 (wr.alloc (.cells #[.int .i64 e0, .int .i64 e1, .int .u64 e2, .int .u64 e3, .int .i64 e4] 36)).drew wr.heap.size ⟨e0, e1, e2, e3, e4⟩) := Lib.hid (heap_alloc_new wr _)
                    have HVL := Lib.hid (fun e (he : (Value.slice A9 L7.length c9).ownBlock = some e) => show e ≠ wr.heap.size from fun h => by have := (HR5.out.lt e he).2; omega)
                    have HXS := Lib.hid (blt HX.out)
                    obtain ⟨_, g1⟩ := two_cells HXD.out
                    have g2 := blk_frozen HXD.out 1
                    obtain ⟨k0, k1, k2', k3, k4⟩ := Bx5.cells HYD.out
                    clear hbd hy hb
                    go_wp2
                    go_region_law (first
                        | (go_simp; go_at_call 24; go_must (refine (HT1.out _ HPD.out).mono ?_; rintro e w7 ⟨rfl, hb7⟩; have hx7 := (hb7.block ws.heap.size (blt HXD.out)).trans HXD.out; have HX7 := Lib.hid hx7; have HR7 := Lib.hid (HRD.out.below hb7); have HB7 := Lib.hid (HBD.out.trans (hb7.mono HBD.out.size)); have HY7 := Lib.hid (HYD.out.below hb7 (blt HYD.out)); obtain ⟨s0, s1, s2, s3, s4⟩ := Bx5.cells HY7.out; obtain ⟨_, s6⟩ := two_cells hx7; have s7 := blk_frozen hx7 1; have hba := (Below.refl w7.heap.size w7).alloc (Nat.le_refl _) (.cells #[.int .i64 t0, .int .i64 t1, .int .u64 t2, .int .u64 t3, .int .i64 t4] 36); have a0 := cell_old s0 hba.block; have a1 := cell_old s1 hba.block; have a2 := cell_old s2 hba.block; have a3 := cell_old s3 hba.block; have a4 := cell_old s4 hba.block; have a6 := cell_old s6 hba.block; have a7 := blk_frozen ((hba.block ws.heap.size (blt hx7)).trans hx7) 1))
                        | (refine Kd.R_append_step (P := Tryd.prog) k5 (w0 := ws) (W := w7) ws.heap.size (by rfl) (.tmp 72) (.tmp 76) 31 36 zV 40 (by rfl) Tryd.underlying31 info5 rfl (by decide) (by decide) (.slice A9 L7.length c9) L7 ⟨t0, t1, t2, t3, t4⟩ _ (fun _ => True) (fun _ => False) (by rfl) (by rfl) (k5_M _ _ _ _) (fun _ h => h.elim) (fun _ _ => trivial) HR7.out HB7.out HB7.out.size (by omega) ?_; intro v8 w8 hr8 hb8 hg8 hat8; obtain ⟨A6, c6, rfl, _, _⟩ := Kd.R_reads hr8; have hx8 := (hg8.block ws.heap.size (blt HX7.out) (fun e => R5.ne HR7.out HX7.out (by decide) e.symm)).trans HX7.out; have HX8 := Lib.hid hx8; have HY8 := Lib.hid ((hg8.block wr.heap.size (blt HY7.out) (fun e => HVL.out _ e.symm rfl)).trans HY7.out); obtain ⟨s0, s1, s2, s3, s4⟩ := Bx5.cells (show Bx5 w8 wr.heap.size ⟨e0, e1, e2, e3, e4⟩ from HY8.out); obtain ⟨_, s6⟩ := two_cells hx8; have s7 := blk_frozen hx8 1))
                    all_goals
                      simp only [List.length_append, List.length_cons, List.length_nil, Nat.zero_add] at hr8
                      have HR8 : Hid (R5 (w8.setCell ⟨ws.heap.size, 1, none⟩ (.slice A6 (L7.length + 1) c6)) ws.heap.size (.slice A6 (L7.length + 1) c6) ((f0.take (u + 1)).map (toldP pl))) := Lib.hid (by rw [HE.out]; exact Kd.R_set hr8 HX8.out (by decide) 1 _)
                      have HXF : Hid ((w8.setCell ⟨ws.heap.size, 1, none⟩ (.slice A6 (L7.length + 1) c6)).heap[ws.heap.size]? = some (.cells #[.int .i64 x0, .slice A6 (L7.length + 1) c6] 33 (0, 0))) := Lib.hid (blk_set HX8.out 1 _)
                      have HBF := Lib.hid (hb8.trans (below_of_grown (grown_set w8 ws.heap.size 1 (.slice A6 (L7.length + 1) c6)) (Nat.le_refl _) hb8.size))
                      clear hr8 hb8 hg8 hat8 hx8 hx7 HX7 HR7 HB7 HY7 hba HX8 HY8 s0 s1 s2 s3 s4 s6 s7 a0 a1 a2 a3 a4 a6 a7
                      go_wp2
                      go_roundw
                      case rel => exact ⟨u + 1, _, by omega, by go_num, HXF.out, HR8.out, HBF.out⟩
                      case measure => simp [intOf]; omega
                  · obtain rfl : f0.length = u := by omega
                    have hL7e := HL7.out
                    rw [List.take_length] at hL7e
                    have HR2R := Lib.hid (HR2.out.below hb)
                    have hO := (hb.block _ (blt HO.out)).trans HO.out
                    obtain ⟨o0, _, _⟩ := Bx3_one hO
                    have fo := blk_frozen hO 0
                    have HOW := Lib.hid hO
                    have HBWR := Lib.hid (HB.out.trans (hb.mono hbs5))
                    have hsw := HBWR.out.size
                    have HMN : Hid (k2.M wr w5.heap.size (fun k => some k ≠ (Value.slice A8 LN.length c8).ownBlock) ⟨x0, f0.map (toldP pl)⟩ [.int .i64 x0, .slice A9 L7.length c9]) := Lib.hid
                      ⟨[_], [_], rfl, rfl, _, rfl, Kd.R_mono (Kd.R_bound (Kd.R_lower (by rw [hL7e]; exact HR5.out) hbs5)) (fun q hq e => by
                        have h1 := (HR2.out.lt q e.symm).2
                        obtain ⟨_, _, _, qq, hqq, cells, hcell⟩ := hq
                        have h2 := (hb.block q h1).symm.trans hcell
                        have h3 := own_typed (Kd.R_own HR2.out).choose_spec q e.symm
                        obtain ⟨cs, hcs⟩ := h3
                        rw [hcs] at h2
                        injection h2 with h2
                        injection h2 with _ h2
                        rw [← h2] at hqq
                        exact absurd hqq (by decide))⟩
                    clear hb hL7e hO
                    go_wp2_with (at_builtin; refine Kd.R_append (P := Tryd.prog) k2 (w0 := w5) (W := wr) w5.heap.size rfl (.tmp 81) (.tmp 83) 22 33 zNd 32 rfl Tryd.underlying22 infoN rfl (by decide) (by decide) _ LN ⟨x0, f0.map (toldP pl)⟩ [.int .i64 x0, .slice A9 L7.length c9] (fun _ => True) (fun k => some k ≠ (Value.slice A8 LN.length c8).ownBlock) rfl rfl HMN.out (fun k hk => ⟨trivial, hk⟩) (fun _ _ => trivial) HR2R.out HBWR.out hsw ?c1 ?_)
                    case c1 => omega
                    intro v9 w9 hr9 hb9 hg9 hat9
                    obtain ⟨A3, c3, rfl, _, _⟩ := Kd.R_reads hr9
                    simp only [List.length_append, List.length_cons, List.length_nil, Nat.zero_add] at hr9
                    have hO9 := (hg9.block w5.heap.size (blt HOW.out) (fun e => R2.ne HR2R.out HOW.out (by decide) e.symm)).trans HOW.out
                    have o9 := (Bx3_one hO9).1
                    have f9 := blk_frozen hO9 0
                    have HR9 : Hid (R2 (w9.setCell ⟨w5.heap.size, 0, none⟩ (.slice A3 (LN.length + 1) c3)) w5.heap.size (.slice A3 (LN.length + 1) c3) ((W.take (t + 1)).map (nodeT g pl))) := Lib.hid (by rw [HTK.out]; exact Kd.R_set hr9 hO9 (by decide) 0 _)
                    have HOF : Hid ((w9.setCell ⟨w5.heap.size, 0, none⟩ (.slice A3 (LN.length + 1) c3)).heap[w5.heap.size]? = some (.cells #[.slice A3 (LN.length + 1) c3, .slice none 0 0, .slice none 0 0] 25 (0, 0))) := Lib.hid (blk_set hO9 0 _)
                    have HBF := Lib.hid (hb9.trans (below_of_grown (grown_set w9 w5.heap.size 0 (.slice A3 (LN.length + 1) c3)) (Nat.le_refl _) hb9.size))
                    clear hr9 hb9 hg9 hat9 hO9 HMN
                    go_wp2
                    go_roundw
                    case rel => exact ⟨t + 1, _, by omega, by go_num, HOF.out, HR9.out, HBF.out⟩
                    case measure => simp [intOf]; omega
              · obtain rfl : W.length = t := by omega
                have hLNe := HLN.out
                rw [List.take_length] at hLNe
                have HLE := Lib.hid hLNe
                have HMV1 : Hid (∀ W', Rd W' AR g.rs → Rd W' (some ⟨w2.heap.size, 0, none⟩) pl → Calls Tryd.prog 25 #[.slice AR nR cR, .slice (some ⟨w2.heap.size, 0, none⟩) nN nN] W' (Own W' (movedL pl g.rs))) := Lib.hid (fun W' h1 h2 => by
                  have := HMV.out AR cR g.rs W' h1 h2 (by rw [← HNL.out]; exact fun x hx => (HMR.out.1 x hx).2) (by rw [HLR.out]; exact z1)
                  rw [HLR.out] at this
                  exact this)
                have HMV2 : Hid (∀ W', Rd W' AW g.ws → Rd W' (some ⟨w2.heap.size, 0, none⟩) pl → Calls Tryd.prog 25 #[.slice AW nW cW, .slice (some ⟨w2.heap.size, 0, none⟩) nN nN] W' (Own W' (movedL pl g.ws))) := Lib.hid (fun W' h1 h2 => by
                  have := HMV.out AW cW g.ws W' h1 h2 (by rw [← HNL.out]; exact fun x hx => (HMR.out.2 x hx).2) (by rw [HLW.out]; exact z2)
                  rw [HLW.out] at this
                  exact this)
                have hbd := (Below.refl wr.heap.size wr).drew
                have HRRD := Lib.hid ((HR.out.below HBW.out.block).below hbd.block)
                have HWRD := Lib.hid ((HW.out.below HBW.out.block).below hbd.block)
                have HPWD := Lib.hid (HPW.out.below hbd.block)
                have hO := HO.out
                obtain ⟨o0, o1, o2⟩ := Bx3_one hO
                have hxx := (hb.block _ (blt HX5.out)).trans HX5.out
                have HXW := Lib.hid hxx
                have HRes := Lib.hid ((hb.block (w.heap.size + 1) (by omega)).trans HRes5.out)
                have fo1 := blk_frozen hO 1
                have fo2 := blk_frozen hO 2
                clear hLNe hO hxx hlt hbd hb
                go_wp2
                go_region_law (first
                  | (go_simp; go_at_call 25; have := hb7; refine (HMV2.out _ ((HWRD.out).below hb7.block) (HPWD.out.below hb7.block)).mono ?_; rintro e w8 ⟨v8, rfl, ho8, hb8⟩; obtain ⟨_, A6, c6, rfl, _⟩ := own_rd ho8; have HO8 := Lib.hid ho8; have hou8 := (hb8.block w5.heap.size (blt HOU7.out)).trans HOU7.out; obtain ⟨u0, u1, u2⟩ := Bx3_one hou8; have u3 := blk_frozen hou8 1; have u4 := blk_frozen hou8 2; have HOU8 := Lib.hid hou8)
                  | (go_simp; go_at_call 25; refine (HMV1.out _ HRRD.out HPWD.out).mono ?_; rintro e w7 ⟨v7, rfl, ho7, hb7⟩; obtain ⟨_, A9, c9, rfl, _⟩ := own_rd ho7; have HO7 := Lib.hid ho7; have hx7 := (hb7.block w.heap.size (blt HXW.out)).trans HXW.out; obtain ⟨s0, s1, s2⟩ := Bx3_one hx7; have HOU7 := Lib.hid ((hb7.block w5.heap.size (blt HO.out)).trans HO.out)))
                all_goals
                  have HLT : Hid (trimL g = ⟨LN, movedL pl g.rs, movedL pl g.ws⟩) := Lib.hid (by rw [HT.out]; unfold trimW; rw [HNL.out, HPE.out, HLE.out])
                  obtain ⟨w10, hw10⟩ : ∃ w10, (w8.setCell ⟨w5.heap.size, 1, none⟩ (.slice A9 (movedL pl g.rs).length c9)).setCell ⟨w5.heap.size, 2, none⟩ (.slice A6 (movedL pl g.ws).length c6) = w10 := ⟨_, rfl⟩
                  have HG10 : Hid (w8.grownBy w10 (some w5.heap.size)) := Lib.hid (by rw [← hw10]; exact grown_trans (grown_set _ _ _ _) (grown_set _ _ _ _))
                  have HO10 : Hid (w10.heap[w5.heap.size]? = some (.cells #[.slice A8 LN.length c8, .slice A9 (movedL pl g.rs).length c9, .slice A6 (movedL pl g.ws).length c6] 25 (0, 0))) := Lib.hid (by rw [← hw10]; exact blk_set (blk_set HOU8.out 1 _) 2 _)
                  obtain ⟨q0, q1, q2⟩ := Bx3_one HO10.out
                  have HB8 : Hid (Below wr.heap.size wr w8) := Lib.hid ((Below.refl wr.heap.size wr).drew.trans (show Below wr.heap.size wr.drew w8 from hb7.trans (hb8.mono hb7.size)))
                  have hres10 := (HG10.out.block (w.heap.size + 1) (by have := HB8.out.size; omega) (fun e => by injection e with e; omega)).trans ((HB8.out.block (w.heap.size + 1) (by omega)).trans HRes.out)
                  have HRes10 := Lib.hid hres10
                  obtain ⟨r0, r1, r2⟩ := Bx3_one hres10
                  have g0 := blk_frozen hres10 0
                  have g1 := blk_frozen hres10 1
                  have g2 := blk_frozen hres10 2
                  obtain ⟨w11, hw11, h11, hg11⟩ := set3 hres10 (.slice A8 LN.length c8) (.slice A9 (movedL pl g.rs).length c9) (.slice A6 (movedL pl g.ws).length c6)
                  obtain ⟨j0, j1, j2⟩ := Bx3_one h11
                  have HNV : Hid (∀ W : World, (∀ k, w.heap.size ≤ k → k < w11.heap.size → W.heap[k]? = w11.heap[k]?) → Nv W A8 LN) := Lib.hid (fun W hW => by
                    have h1 := R2.other (HR2.out.below HB8.out) HOU8.out (by decide) HG10.out
                    exact nv_stable (R2.other h1 HRes10.out (by decide) hg11) (fun k hk hl => hW k (by omega) hl))
                  have HR9 : Hid (∀ W : World, (∀ k, w.heap.size ≤ k → k < w11.heap.size → W.heap[k]? = w11.heap[k]?) → Rd W A9 (movedL pl g.rs)) := Lib.hid (fun W hW => by
                    have h1 := own_other (own_other (own_move HO7.out fun k hk => hb8.block k (HO7.out.lt k hk).2) HOU8.out (by decide) HG10.out) HRes10.out (by decide) hg11
                    exact own_rdA (own_move h1 fun k hk => hW k (by have := (h1.lt k hk).1; have : wr.drew.heap.size = wr.heap.size := rfl; omega) (h1.lt k hk).2))
                  have HR6 : Hid (∀ W : World, (∀ k, w.heap.size ≤ k → k < w11.heap.size → W.heap[k]? = w11.heap[k]?) → Rd W A6 (movedL pl g.ws)) := Lib.hid (fun W hW => by
                    have h1 := own_other (own_other HO8.out HOU8.out (by decide) HG10.out) HRes10.out (by decide) hg11
                    exact own_rdA (own_move h1 fun k hk => hW k (by have := (h1.lt k hk).1; have := hb7.size; have : wr.drew.heap.size = wr.heap.size := rfl; omega) (h1.lt k hk).2))
                  have HCN : Hid (LN.length ≤ c8) := Lib.hid (by
                    obtain ⟨A', c', e, hn, _⟩ := HR2.out.reads
                    have e3 : c8 = c' := by injection e
                    rw [e3]
                    exact hn)
                  have HC9 := Lib.hid (own_cap HO7.out)
                  have HC6 := Lib.hid (own_cap HO8.out)
                  have HBF : Hid (Below w.heap.size w w11) := Lib.hid ((HBW.out.trans (HB8.out.mono HBW.out.size)).trans ⟨hg11.os.trans HG10.out.os, hg11.tape.trans HG10.out.tape, hg11.output.trans HG10.out.output, Nat.le_trans HG10.out.size hg11.size, fun k hk => (hg11.block k (by have := HG10.out.size; have := HB8.out.size; omega) (fun e => by injection e with e; omega)).trans (HG10.out.block k (by have := HB8.out.size; omega) (fun e => by injection e with e; omega))⟩)
                  rw [hw10]
                  clear hres10 h11 hg11 ho7 hb7 ho8 hb8 hx7 hou8 HG10 HO10 HOU8 HOU7
                  go_wp2
                  try rw [hw11]
                  exact bodyPost_ret (v := .agg #[.slice A8 LN.length c8, .slice A9 (movedL pl g.rs).length c9, .slice A6 (movedL pl g.ws).length c6]) (by simp [results, Tryd.results9, go_sem, j0, j1, j2]) rfl ⟨_, rfl, by rw [HLT.out]; exact ⟨A8, c8, A9, c9, A6, c6, rfl, HCN.out, HC9.out, HC6.out, HNV.out _ (fun _ _ _ => rfl), HR9.out _ (fun _ _ _ => rfl), HR6.out _ (fun _ _ _ => rfl)⟩, fun W hW => by rw [HLT.out]; exact ⟨A8, c8, A9, c9, A6, c6, rfl, HCN.out, HC9.out, HC6.out, HNV.out W hW, HR9.out W hW, HR6.out W hW⟩, HBF.out⟩
theorem trim_any (v : Value) (g : G3) (w : World) (h : GAt w v g) (hz : Sz g) : Calls Tryd.prog 9 #[v] w (TrimPost g w) :=
  (trim_fresh v g w h hz).mono fun e w' ⟨v', e1, hg, _, hb⟩ => ⟨v', e1, hg, hb⟩
end Go.Proofs.YtdgclpgjoanimaaDoor.Tm
