/- Reach, and that its answer is new. -/
import Derived.Test.YtdgclpgjoanimaaRe
namespace Go.Proofs.Ytdgclpgjoanimaa.Rf
open Go.RowKit Go.ChangeShapes Go.WideShapes Go.Proofs.YtdgclpgjoanimaaW.PrintWords Go.Proofs.Ytdgclpgjoanimaa.Ba Go.Proofs.Ytdgclpgjoanimaa.Ma Go.Proofs.Ytdgclpgjoanimaa.Mb Go.Proofs.Ytdgclpgjoanimaa.Pu Go.Proofs.Ytdgclpgjoanimaa.Wa Go.Proofs.Ytdgclpgjoanimaa.Re
set_option linter.unusedVariables false
def FPost (w : World) (L : List Bool) (e : Ending) (w' : World) : Prop := ∃ A c, e = .returned (.slice A L.length c) ∧ (∀ ad, A = some ad → w.heap.size ≤ ad.block ∧ ad.block < w'.heap.size) ∧ BRd w' A L ∧ Below w.heap.size w w'
set_option maxHeartbeats 8000000 in
theorem reach_fresh (v : Value) (g : G3) (A : Option Addr) (c : Nat) (l : List Int) (w : World) (h : GAt w v g) (hz : Sz g) (hl : Rd w A l) (hll : l.length ≤ 10000) :
    Calls Try.prog 14 #[v, .slice A l.length c] w (FPost w (reachR g l)) := by
  have HG := Lib.hid h
  have HL := Lib.hid hl
  obtain ⟨AN, cN, AR, cR, AW, cW, rfl, _, _, _, _, _, _⟩ := h
  have hb0 := (Below.refl w.heap.size w).alloc (Nat.le_refl _) (.cells #[.slice AN g.ns.length cN, .slice AR g.rs.length cR, .slice AW g.ws.length cW] 25)
  have HB0 := Lib.hid hb0
  have HM := Lib.hid (Mb.may_any _ g _ (HG.out.below hb0) hz)
  have hx0 : Bx3 (w.alloc (.cells #[.slice AN g.ns.length cN, .slice AR g.rs.length cR, .slice AW g.ws.length cW] 25)) w.heap.size AN g.ns.length cN AR g.rs.length cR AW g.ws.length cW := heap_alloc_new w _
  have HX0 := Lib.hid hx0
  clear hl hb0 hx0
  cases em : mayG g
  · have HR : Hid (reachR g l = []) := Lib.hid (by unfold reachR; rw [em]; rfl)
    rw [em] at HM
    clear em
    go_enter Try.func14, Try.ntmps14
    go_wp2_with fail
    refine HM.out.mono ?_
    rintro e w1 ⟨rfl, hb⟩
    have HB1 := Lib.hid (HB0.out.trans (hb.mono HB0.out.size))
    clear hb
    go_wp2
    go_ret
    rw [HR.out]
    exact ⟨none, 0, rfl, fun _ h => (by cases h), fun i hi => by simp at hi, HB1.out⟩
  · have HR : Hid (reachR g l = reachL g l) := Lib.hid (by unfold reachR; rw [em]; rfl)
    have hn := may_len em
    rw [em] at HM
    obtain ⟨n, hn'⟩ : ∃ n, g.ns.length = n := ⟨_, rfl⟩
    have HLen := Lib.hid hn'
    obtain ⟨nR, hR'⟩ : ∃ n, g.rs.length = n := ⟨_, rfl⟩
    obtain ⟨nW, hW'⟩ : ∃ n, g.ws.length = n := ⟨_, rfl⟩
    have hmk := print_make_of (P := Try.prog) 29 4 (.bool false) 1 Try.underlying29 Ro.info4 rfl (by decide) n (by omega)
    have HG2 := Lib.hid (HG.out.below HB0.out)
    rw [hn', hR', hW'] at HM HX0 HB0 HG2 ⊢
    rw [hn', hR', hW'] at HG
    rw [hn'] at hn
    clear em hn' hR' hW'
    go_enter Try.func14, Try.ntmps14
    go_wp2_with fail
    refine HM.out.mono ?_
    rintro e w1 ⟨rfl, hb⟩
    have hx1 := HX0.out.below hb
    obtain ⟨q0, q1, q2⟩ := hx1.cells
    have hb2 := (Below.refl w1.heap.size w1).alloc (Nat.le_refl _) (.cells (madeCells #[.bool false] n) 4)
    obtain ⟨p0, p1, p2⟩ := (hx1.below hb2).cells
    have HB1 := Lib.hid (HB0.out.trans (hb.mono HB0.out.size))
    have HB2 := Lib.hid (HB1.out.trans (hb2.mono HB1.out.size))
    have HW := Lib.hid (Wk.walk_any _ g A c l _ (HG.out.old HB2.out.block) hz (by rw [HLen.out]; exact hn) (HL.out.below HB2.out.block) hll)
    have HROW := Lib.hid (mark_none (w := w1) (n := n))
    have hbs := HB1.out.size
    clear hb hx1 hb2
    go_wp2_with fail
    refine HW.out.mono ?_
    rintro e w3 ⟨v3, rfl, ho, hb3⟩
    obtain ⟨_, A5, c5, rfl, hrd⟩ := own_rd ho
    have HO := Lib.hid (own_weaken ho (Nat.le_trans hbs (by rw [size_al]; omega)))
    have HB3 := Lib.hid (HB2.out.trans (hb3.mono HB2.out.size))
    have HROW3 := Lib.hid (HROW.out.of_block (hb3.block _ HROW.out.lt))
    have HGD := Lib.hid (gd_walk g l)
    have hmb := HB1.out.size
    obtain ⟨W, hW⟩ : ∃ W, walkL g l = W := ⟨_, rfl⟩
    have HWE := Lib.hid hW
    have hWl : W.length ≤ 4096 := by rw [← hW]; have := gd_le HGD.out; rw [HLen.out] at this; omega
    rw [hW] at HO HGD ⊢
    rw [HLen.out] at HGD
    clear ho hrd hb3 hW q0 q1 q2 p0 p1 p2
    go_wp2
    go_loopw [19] (fun i wr => ∃ t : Nat, t ≤ W.length ∧ i = .int .i64 (t : Int) ∧ wr.rowIs w1.heap.size 4 n (markF (W.take t)) ∧ wr.ownsRow w.heap.size 3 1 (.slice A5 W.length c5) W.length (W.map (Value.int .i64)) ∧ Below w.heap.size w wr) (fun i _ => W.length - (intOf i).toNat)
    case atStart => exact ⟨0, Nat.zero_le _, rfl, HROW3.out, HO.out, HB3.out⟩
    case round =>
      obtain ⟨t, ht, rfl, hrow, ho, hb⟩ := hrel
      have HRW := Lib.hid hrow
      have HO4 := Lib.hid ho
      have HB4 := Lib.hid hb
      by_cases hlt : t < W.length
      · obtain ⟨_, A6, c6, e6, hrd⟩ := own_rd ho
        injection e6 with e6 _ e7
        subst e6 e7
        obtain ⟨ad, rfl, hc⟩ := hrd t hlt
        have hx := HGD.out.2 _ (mem_getD (d := (0 : Int)) hlt)
        obtain ⟨y, hy⟩ : ∃ y, W.getD t 0 = y := ⟨_, rfl⟩
        rw [hy] at hc hx
        obtain ⟨hx0, hx1⟩ := isB_iff.1 hx
        obtain ⟨k, rfl⟩ : ∃ k : Nat, y = (k : Int) := ⟨y.toNat, by omega⟩
        have hk : k < n := by omega
        have c1 := hrow.cell hk
        have f1 := hrow.frozen k
        obtain ⟨w4, hw4⟩ : ∃ w4, wr.setCell ⟨w1.heap.size, k, none⟩ (.bool true) = w4 := ⟨_, rfl⟩
        have HG4 : Hid (wr.grownBy w4 (some w1.heap.size)) := Lib.hid (by rw [← hw4]; exact grown_set _ _ _ _)
        have HR4 : Hid (w4.rowIs w1.heap.size 4 n (markF (W.take (t + 1)))) := Lib.hid (by rw [← hw4]; exact mark_step HRW.out hlt hy)
        have HO5 : Hid (w4.ownsRow w.heap.size 3 1 (.slice (some ad) W.length c5) W.length (W.map (Value.int .i64))) := Lib.hid (own_move HO4.out fun j hj => HG4.out.block j (HO4.out.lt j hj).2 (fun e => by
          obtain ⟨cc, hcc, _⟩ := HRW.out
          injection e with e
          subst e
          exact own_ty HO4.out hcc (by decide) hj))
        have HB5 : Hid (Below w.heap.size w w4) := Lib.hid (HB4.out.trans ⟨HG4.out.os, HG4.out.tape, HG4.out.output, HG4.out.size, fun j hj => HG4.out.block j (by have := HB4.out.size; omega) (fun e => by injection e with e; omega)⟩)
        unfold markF at c1
        clear hrow ho hb hrd hx
        go_wp2
        go_roundw
        case rel => exact ⟨t + 1, by omega, by go_num, HR4.out, HO5.out, HB5.out⟩
        case measure => simp [intOf]; omega
      · obtain rfl : t = W.length := by omega
        have HRR : Hid (BRd wr (some ⟨w1.heap.size, 0, none⟩) (reachL g l)) := Lib.hid (mark_all (by have := HRW.out; rw [List.take_length] at this; rw [HWE.out, HLen.out]; exact this))
        have HLL : Hid ((reachL g l).length = n) := Lib.hid (by rw [reachL_len, HLen.out])
        clear hrow ho hb
        go_wp2
        go_ret
        rw [HR.out]
        exact ⟨some ⟨w1.heap.size, 0, none⟩, n, by rw [HLL.out]; rfl, fun ad h => (by cases h; exact ⟨HB1.out.size, HRW.out.lt⟩), HRR.out, HB4.out⟩
end Go.Proofs.Ytdgclpgjoanimaa.Rf
