/- Reach, the program's and the reference's; light; rows of bools compared. -/
import Derived.Test.YtdgclpgjoanimaaMc
import Derived.Test.YtdgclpgjoanimaaWk
import Derived.Test.YtdgclpgjoanimaaRo
namespace Go.Proofs.Ytdgclpgjoanimaa.Re
open Go.RowKit Go.ChangeShapes Go.WideShapes Go.Proofs.YtdgclpgjoanimaaW.PrintWords Go.Proofs.Ytdgclpgjoanimaa.Ba Go.Proofs.Ytdgclpgjoanimaa.Ma Go.Proofs.Ytdgclpgjoanimaa.Mb Go.Proofs.Ytdgclpgjoanimaa.Pu Go.Proofs.Ytdgclpgjoanimaa.Wa
set_option linter.unusedVariables false
/-- A row of bools is read. -/
def BRd (w : World) (A : Option Addr) (l : List Bool) : Prop := ∀ i, i < l.length → ∃ ad, A = some ad ∧ w.cell? (ad.add i) = some (.bool (l.getD i false))
theorem BRd.old {w w' : World} {A : Option Addr} {l : List Bool} (h : BRd w A l) (hb : ∀ k, k < w.heap.size → w'.heap[k]? = w.heap[k]?) : BRd w' A l := by
  intro i hi
  obtain ⟨ad, e, hc⟩ := h i hi
  exact ⟨ad, e, cell_old hc hb⟩
def BPost (w : World) (L : List Bool) (e : Ending) (w' : World) : Prop := ∃ A c, e = .returned (.slice A L.length c) ∧ L.length ≤ c ∧ BRd w' A L ∧ Below w.heap.size w w'
def markF (W : List Int) (j : Nat) : Value := .bool (decide ((j : Int) ∈ W))
theorem mark_step {w : World} {m n : Nat} {W : List Int} {t k : Nat} (h : w.rowIs m 4 n (markF (W.take t))) (ht : t < W.length) (hk : W.getD t 0 = (k : Int)) : (w.setCell ⟨m, k, none⟩ (.bool true)).rowIs m 4 n (markF (W.take (t + 1))) := by
  refine (h.set k _).congr fun i hi => ?_
  unfold markF
  rw [take_snoc W 0 t ht, hk]
  by_cases hik : i = k
  · subst hik; simp
  · rw [if_neg hik]
    have : ((i : Int) ∈ W.take t ++ [(k : Int)]) ↔ (i : Int) ∈ W.take t := by
      simp only [List.mem_append, List.mem_singleton]
      constructor
      · rintro (h | h)
        · exact h
        · exact absurd (by omega) hik
      · exact .inl
    simp only [this]
theorem mark_all {w : World} {m : Nat} {g : G3} {xs : List Int} (h : w.rowIs m 4 g.ns.length (markF (walkL g xs))) : BRd w (some ⟨m, 0, none⟩) (reachL g xs) := by
  intro i hi
  rw [reachL_len] at hi
  refine ⟨_, rfl, ?_⟩
  rw [reachL_at g xs i hi, show (Addr.mk m 0 none).add i = ⟨m, i, none⟩ by simp [Addr.add]; omega]
  exact h.cell hi
theorem mark_none {w : World} {n : Nat} : (w.alloc (.cells (madeCells #[.bool false] n) 4)).rowIs w.heap.size 4 n (markF []) := (World.rowIs_made w (.bool false) n 4).congr fun i hi => by simp [markF]
def reachR (g : G3) (xs : List Int) : List Bool := if mayG g = true then reachL g xs else []
theorem may_len {g : G3} (h : mayG g = true) : g.ns.length ≤ 4096 := by
  unfold mayG at h
  simp only [Bool.and_eq_true, decide_eq_true_eq] at h
  exact h.1.1
set_option maxHeartbeats 8000000 in
theorem reach_any (v : Value) (g : G3) (A : Option Addr) (c : Nat) (l : List Int) (w : World) (h : GAt w v g) (hz : Sz g) (hl : Rd w A l) (hll : l.length ≤ 10000) :
    Calls Try.prog 14 #[v, .slice A l.length c] w (BPost w (reachR g l)) := by
  have HG := Lib.hid h
  have HL := Lib.hid hl
  obtain ⟨AN, cN, AR, cR, AW, cW, rfl, _, _, _, _, _, _⟩ := h
  have hb0 := (Below.refl w.heap.size w).alloc (Nat.le_refl _) (.cells #[.slice AN g.ns.length cN, .slice AR g.rs.length cR, .slice AW g.ws.length cW] 25)
  have HB0 := Lib.hid hb0
  have HM := Lib.hid (Mb.may_any _ g _ (HG.out.below hb0) hz)
  have hx0 : Bx3 (w.alloc (.cells #[.slice AN g.ns.length cN, .slice AR g.rs.length cR, .slice AW g.ws.length cW] 25)) w.heap.size AN g.ns.length cN AR g.rs.length cR AW g.ws.length cW := heap_alloc_new w _
  have HX0 := Lib.hid hx0
  clear hl hb0 hx0
  cases em : mayG g
  · have HR : Hid (reachR g l = []) := Lib.hid (by unfold reachR; rw [em]; rfl)
    rw [em] at HM
    clear em
    go_enter Try.func14, Try.ntmps14
    go_wp2_with fail
    refine HM.out.mono ?_
    rintro e w1 ⟨rfl, hb⟩
    have HB1 := Lib.hid (HB0.out.trans (hb.mono HB0.out.size))
    clear hb
    go_wp2
    go_ret
    rw [HR.out]
    exact ⟨none, 0, rfl, Nat.le_refl _, fun i hi => by simp at hi, HB1.out⟩
  · have HR : Hid (reachR g l = reachL g l) := Lib.hid (by unfold reachR; rw [em]; rfl)
    have hn := may_len em
    rw [em] at HM
    obtain ⟨n, hn'⟩ : ∃ n, g.ns.length = n := ⟨_, rfl⟩
    have HLen := Lib.hid hn'
    obtain ⟨nR, hR'⟩ : ∃ n, g.rs.length = n := ⟨_, rfl⟩
    obtain ⟨nW, hW'⟩ : ∃ n, g.ws.length = n := ⟨_, rfl⟩
    have hmk := print_make_of (P := Try.prog) 29 4 (.bool false) 1 Try.underlying29 Ro.info4 rfl (by decide) n (by omega)
    have HG2 := Lib.hid (HG.out.below HB0.out)
    rw [hn', hR', hW'] at HM HX0 HB0 HG2 ⊢
    rw [hn', hR', hW'] at HG
    rw [hn'] at hn
    clear em hn' hR' hW'
    go_enter Try.func14, Try.ntmps14
    go_wp2_with fail
    refine HM.out.mono ?_
    rintro e w1 ⟨rfl, hb⟩
    have hx1 := HX0.out.below hb
    obtain ⟨q0, q1, q2⟩ := hx1.cells
    have hb2 := (Below.refl w1.heap.size w1).alloc (Nat.le_refl _) (.cells (madeCells #[.bool false] n) 4)
    obtain ⟨p0, p1, p2⟩ := (hx1.below hb2).cells
    have HB1 := Lib.hid (HB0.out.trans (hb.mono HB0.out.size))
    have HB2 := Lib.hid (HB1.out.trans (hb2.mono HB1.out.size))
    have HW := Lib.hid (Wk.walk_any _ g A c l _ (HG.out.old HB2.out.block) hz (by rw [HLen.out]; exact hn) (HL.out.below HB2.out.block) hll)
    have HROW := Lib.hid (mark_none (w := w1) (n := n))
    have hbs := HB1.out.size
    clear hb hx1 hb2
    go_wp2_with fail
    refine HW.out.mono ?_
    rintro e w3 ⟨v3, rfl, ho, hb3⟩
    obtain ⟨_, A5, c5, rfl, hrd⟩ := own_rd ho
    have HO := Lib.hid (own_weaken ho (Nat.le_trans hbs (by rw [size_al]; omega)))
    have HB3 := Lib.hid (HB2.out.trans (hb3.mono HB2.out.size))
    have HROW3 := Lib.hid (HROW.out.of_block (hb3.block _ HROW.out.lt))
    have HGD := Lib.hid (gd_walk g l)
    have hmb := HB1.out.size
    obtain ⟨W, hW⟩ : ∃ W, walkL g l = W := ⟨_, rfl⟩
    have HWE := Lib.hid hW
    have hWl : W.length ≤ 4096 := by rw [← hW]; have := gd_le HGD.out; rw [HLen.out] at this; omega
    rw [hW] at HO HGD ⊢
    rw [HLen.out] at HGD
    clear ho hrd hb3 hW q0 q1 q2 p0 p1 p2
    go_wp2
    go_loopw [19] (fun i wr => ∃ t : Nat, t ≤ W.length ∧ i = .int .i64 (t : Int) ∧ wr.rowIs w1.heap.size 4 n (markF (W.take t)) ∧ wr.ownsRow w.heap.size 3 1 (.slice A5 W.length c5) W.length (W.map (Value.int .i64)) ∧ Below w.heap.size w wr) (fun i _ => W.length - (intOf i).toNat)
    case atStart => exact ⟨0, Nat.zero_le _, rfl, HROW3.out, HO.out, HB3.out⟩
    case round =>
      obtain ⟨t, ht, rfl, hrow, ho, hb⟩ := hrel
      have HRW := Lib.hid hrow
      have HO4 := Lib.hid ho
      have HB4 := Lib.hid hb
      by_cases hlt : t < W.length
      · obtain ⟨_, A6, c6, e6, hrd⟩ := own_rd ho
        injection e6 with e6 _ e7
        subst e6 e7
        obtain ⟨ad, rfl, hc⟩ := hrd t hlt
        have hx := HGD.out.2 _ (mem_getD (d := (0 : Int)) hlt)
        obtain ⟨y, hy⟩ : ∃ y, W.getD t 0 = y := ⟨_, rfl⟩
        rw [hy] at hc hx
        obtain ⟨hx0, hx1⟩ := isB_iff.1 hx
        obtain ⟨k, rfl⟩ : ∃ k : Nat, y = (k : Int) := ⟨y.toNat, by omega⟩
        have hk : k < n := by omega
        have c1 := hrow.cell hk
        have f1 := hrow.frozen k
        obtain ⟨w4, hw4⟩ : ∃ w4, wr.setCell ⟨w1.heap.size, k, none⟩ (.bool true) = w4 := ⟨_, rfl⟩
        have HG4 : Hid (wr.grownBy w4 (some w1.heap.size)) := Lib.hid (by rw [← hw4]; exact grown_set _ _ _ _)
        have HR4 : Hid (w4.rowIs w1.heap.size 4 n (markF (W.take (t + 1)))) := Lib.hid (by rw [← hw4]; exact mark_step HRW.out hlt hy)
        have HO5 : Hid (w4.ownsRow w.heap.size 3 1 (.slice (some ad) W.length c5) W.length (W.map (Value.int .i64))) := Lib.hid (own_move HO4.out fun j hj => HG4.out.block j (HO4.out.lt j hj).2 (fun e => by
          obtain ⟨cc, hcc, _⟩ := HRW.out
          injection e with e
          subst e
          exact own_ty HO4.out hcc (by decide) hj))
        have HB5 : Hid (Below w.heap.size w w4) := Lib.hid (HB4.out.trans ⟨HG4.out.os, HG4.out.tape, HG4.out.output, HG4.out.size, fun j hj => HG4.out.block j (by have := HB4.out.size; omega) (fun e => by injection e with e; omega)⟩)
        unfold markF at c1
        clear hrow ho hb hrd hx
        go_wp2
        go_roundw
        case rel => exact ⟨t + 1, by omega, by go_num, HR4.out, HO5.out, HB5.out⟩
        case measure => simp [intOf]; omega
      · obtain rfl : t = W.length := by omega
        have HRR : Hid (BRd wr (some ⟨w1.heap.size, 0, none⟩) (reachL g l)) := Lib.hid (mark_all (by have := HRW.out; rw [List.take_length] at this; rw [HWE.out, HLen.out]; exact this))
        have HLL : Hid ((reachL g l).length = n) := Lib.hid (by rw [reachL_len, HLen.out])
        clear hrow ho hb
        go_wp2
        go_ret
        rw [HR.out]
        exact ⟨some ⟨w1.heap.size, 0, none⟩, n, by rw [HLL.out]; rfl, by rw [HLL.out]; exact Nat.le_refl _, HRR.out, HB4.out⟩
set_option maxHeartbeats 8000000 in
theorem rreach_any (v : Value) (g : G3) (A : Option Addr) (c : Nat) (l : List Int) (w : World) (h : GAt w v g) (hz : Sz g) (hl : Rd w A l) (hll : l.length ≤ 10000) :
    Calls Try.prog 15 #[v, .slice A l.length c] w (BPost w (reachR g l)) := by
  have HG := Lib.hid h
  have HL := Lib.hid hl
  obtain ⟨AN, cN, AR, cR, AW, cW, rfl, _, _, _, _, _, _⟩ := h
  have hb0 := (Below.refl w.heap.size w).alloc (Nat.le_refl _) (.cells #[.slice AN g.ns.length cN, .slice AR g.rs.length cR, .slice AW g.ws.length cW] 25)
  have HB0 := Lib.hid hb0
  have HM := Lib.hid (Mc.rmay_any _ g _ (HG.out.below hb0) hz)
  have hx0 : Bx3 (w.alloc (.cells #[.slice AN g.ns.length cN, .slice AR g.rs.length cR, .slice AW g.ws.length cW] 25)) w.heap.size AN g.ns.length cN AR g.rs.length cR AW g.ws.length cW := heap_alloc_new w _
  have HX0 := Lib.hid hx0
  clear hl hb0 hx0
  cases em : mayG g
  · have HR : Hid (reachR g l = []) := Lib.hid (by unfold reachR; rw [em]; rfl)
    rw [em] at HM
    clear em
    go_enter Try.func15, Try.ntmps15
    go_wp2_with fail
    refine HM.out.mono ?_
    rintro e w1 ⟨rfl, hb⟩
    have HB1 := Lib.hid (HB0.out.trans (hb.mono HB0.out.size))
    clear hb
    go_wp2
    go_ret
    rw [HR.out]
    exact ⟨none, 0, rfl, Nat.le_refl _, fun i hi => by simp at hi, HB1.out⟩
  · have HR : Hid (reachR g l = reachL g l) := Lib.hid (by unfold reachR; rw [em]; rfl)
    have hn := may_len em
    rw [em] at HM
    obtain ⟨n, hn'⟩ : ∃ n, g.ns.length = n := ⟨_, rfl⟩
    have HLen := Lib.hid hn'
    obtain ⟨nR, hR'⟩ : ∃ n, g.rs.length = n := ⟨_, rfl⟩
    obtain ⟨nW, hW'⟩ : ∃ n, g.ws.length = n := ⟨_, rfl⟩
    have hmk := print_make_of (P := Try.prog) 29 4 (.bool false) 1 Try.underlying29 Ro.info4 rfl (by decide) n (by omega)
    have HG2 := Lib.hid (HG.out.below HB0.out)
    rw [hn', hR', hW'] at HM HX0 HB0 HG2 ⊢
    rw [hn', hR', hW'] at HG
    rw [hn'] at hn
    clear em hn' hR' hW'
    go_enter Try.func15, Try.ntmps15
    go_wp2_with fail
    refine HM.out.mono ?_
    rintro e w1 ⟨rfl, hb⟩
    have hx1 := HX0.out.below hb
    obtain ⟨q0, q1, q2⟩ := hx1.cells
    have hb2 := (Below.refl w1.heap.size w1).alloc (Nat.le_refl _) (.cells (madeCells #[.bool false] n) 4)
    obtain ⟨p0, p1, p2⟩ := (hx1.below hb2).cells
    have HB1 := Lib.hid (HB0.out.trans (hb.mono HB0.out.size))
    have HB2 := Lib.hid (HB1.out.trans (hb2.mono HB1.out.size))
    have HW := Lib.hid (Ro.order_any _ g A c l _ (HG.out.old HB2.out.block) hz (by rw [HLen.out]; exact hn) (HL.out.below HB2.out.block) hll)
    have HROW := Lib.hid (mark_none (w := w1) (n := n))
    have hbs := HB1.out.size
    clear hb hx1 hb2
    go_wp2_with fail
    refine HW.out.mono ?_
    rintro e w3 ⟨v3, rfl, ho, hb3⟩
    obtain ⟨_, A5, c5, rfl, hrd⟩ := own_rd ho
    have HO := Lib.hid (own_weaken ho (Nat.le_trans hbs (by rw [size_al]; omega)))
    have HB3 := Lib.hid (HB2.out.trans (hb3.mono HB2.out.size))
    have HROW3 := Lib.hid (HROW.out.of_block (hb3.block _ HROW.out.lt))
    have HGD := Lib.hid (gd_walk g l)
    have hmb := HB1.out.size
    obtain ⟨W, hW⟩ : ∃ W, walkL g l = W := ⟨_, rfl⟩
    have HWE := Lib.hid hW
    have hWl : W.length ≤ 4096 := by rw [← hW]; have := gd_le HGD.out; rw [HLen.out] at this; omega
    rw [hW] at HO HGD ⊢
    rw [HLen.out] at HGD
    clear ho hrd hb3 hW q0 q1 q2 p0 p1 p2
    go_wp2
    go_loopw [19] (fun i wr => ∃ t : Nat, t ≤ W.length ∧ i = .int .i64 (t : Int) ∧ wr.rowIs w1.heap.size 4 n (markF (W.take t)) ∧ wr.ownsRow w.heap.size 3 1 (.slice A5 W.length c5) W.length (W.map (Value.int .i64)) ∧ Below w.heap.size w wr) (fun i _ => W.length - (intOf i).toNat)
    case atStart => exact ⟨0, Nat.zero_le _, rfl, HROW3.out, HO.out, HB3.out⟩
    case round =>
      obtain ⟨t, ht, rfl, hrow, ho, hb⟩ := hrel
      have HRW := Lib.hid hrow
      have HO4 := Lib.hid ho
      have HB4 := Lib.hid hb
      by_cases hlt : t < W.length
      · obtain ⟨_, A6, c6, e6, hrd⟩ := own_rd ho
        injection e6 with e6 _ e7
        subst e6 e7
        obtain ⟨ad, rfl, hc⟩ := hrd t hlt
        have hx := HGD.out.2 _ (mem_getD (d := (0 : Int)) hlt)
        obtain ⟨y, hy⟩ : ∃ y, W.getD t 0 = y := ⟨_, rfl⟩
        rw [hy] at hc hx
        obtain ⟨hx0, hx1⟩ := isB_iff.1 hx
        obtain ⟨k, rfl⟩ : ∃ k : Nat, y = (k : Int) := ⟨y.toNat, by omega⟩
        have hk : k < n := by omega
        have c1 := hrow.cell hk
        have f1 := hrow.frozen k
        obtain ⟨w4, hw4⟩ : ∃ w4, wr.setCell ⟨w1.heap.size, k, none⟩ (.bool true) = w4 := ⟨_, rfl⟩
        have HG4 : Hid (wr.grownBy w4 (some w1.heap.size)) := Lib.hid (by rw [← hw4]; exact grown_set _ _ _ _)
        have HR4 : Hid (w4.rowIs w1.heap.size 4 n (markF (W.take (t + 1)))) := Lib.hid (by rw [← hw4]; exact mark_step HRW.out hlt hy)
        have HO5 : Hid (w4.ownsRow w.heap.size 3 1 (.slice (some ad) W.length c5) W.length (W.map (Value.int .i64))) := Lib.hid (own_move HO4.out fun j hj => HG4.out.block j (HO4.out.lt j hj).2 (fun e => by
          obtain ⟨cc, hcc, _⟩ := HRW.out
          injection e with e
          subst e
          exact own_ty HO4.out hcc (by decide) hj))
        have HB5 : Hid (Below w.heap.size w w4) := Lib.hid (HB4.out.trans ⟨HG4.out.os, HG4.out.tape, HG4.out.output, HG4.out.size, fun j hj => HG4.out.block j (by have := HB4.out.size; omega) (fun e => by injection e with e; omega)⟩)
        unfold markF at c1
        clear hrow ho hb hrd hx
        go_wp2
        go_roundw
        case rel => exact ⟨t + 1, by omega, by go_num, HR4.out, HO5.out, HB5.out⟩
        case measure => simp [intOf]; omega
      · obtain rfl : t = W.length := by omega
        have HRR : Hid (BRd wr (some ⟨w1.heap.size, 0, none⟩) (reachL g l)) := Lib.hid (mark_all (by have := HRW.out; rw [List.take_length] at this; rw [HWE.out, HLen.out]; exact this))
        have HLL : Hid ((reachL g l).length = n) := Lib.hid (by rw [reachL_len, HLen.out])
        clear hrow ho hb
        go_wp2
        go_ret
        rw [HR.out]
        exact ⟨some ⟨w1.heap.size, 0, none⟩, n, by rw [HLL.out]; rfl, by rw [HLL.out]; exact Nat.le_refl _, HRR.out, HB4.out⟩
theorem sameb_any (A B : Option Addr) (c d : Nat) (l : List Bool) (w : World) (hl : l.length ≤ 100000) (hA : BRd w A l) (hB : BRd w B l) :
    Calls Try.prog 13 #[.slice A l.length c, .slice B l.length d] w (BoolPost true w) := by
  have HA := Lib.hid hA
  have HB := Lib.hid hB
  clear hA hB
  have cne : ∀ z : Int, (z != z) = false := fun z => by rw [bne_eq_false_iff_eq]
  go_enter Try.func13, Try.ntmps13
  go_wp2
  go_loopw [13] (fun i wr => ∃ k : Nat, k ≤ l.length ∧ i = .int .i64 (k : Int) ∧ wr.heap = w.heap ∧ Below w.heap.size w wr) (fun i _ => l.length - (intOf i).toNat)
  case atStart => exact ⟨0, by omega, rfl, rfl, Below.refl _ _⟩
  case round =>
    obtain ⟨k, hk, rfl, hh, hb⟩ := hrel
    by_cases hlt : k < l.length
    · obtain ⟨ad, rfl, hc⟩ := HA.out k hlt
      obtain ⟨ae, rfl, hd⟩ := HB.out k hlt
      rw [← cell_heap hh] at hc hd
      generalize l.getD k false = z at hc hd
      have HH := Lib.hid hh
      clear hh
      cases z
      all_goals
        go_wp2
        go_region
        go_wp2
        go_roundw
        case rel => exact ⟨k + 1, by omega, by go_num, HH.out, hb.drew⟩
        case measure => simp [intOf]; omega
    · obtain rfl : k = l.length := by omega
      go_wp2
      go_ret
      exact ⟨rfl, hb⟩
def lightG (g : G3) : Bool := decide (g.ns.length ≤ 60) && decide (g.rs.length ≤ 40) && decide (g.ws.length ≤ 40) && g.ns.all (fun x => decide (x.fs.length ≤ 30))
theorem light_sz {g : G3} (h : lightG g = true) : Sz g := by
  unfold lightG at h
  simp only [Bool.and_eq_true, decide_eq_true_eq, List.all_eq_true] at h
  exact ⟨by omega, by omega, fun x hx => by have := h.2 x hx; omega⟩
theorem light_ns {g : G3} (h : lightG g = true) : g.ns.length ≤ 60 ∧ g.rs.length ≤ 40 ∧ g.ws.length ≤ 40 ∧ ∀ x ∈ g.ns, x.fs.length ≤ 30 := by
  unfold lightG at h
  simp only [Bool.and_eq_true, decide_eq_true_eq, List.all_eq_true] at h
  exact ⟨h.1.1.1, h.1.1.2, h.1.2, h.2⟩
set_option maxHeartbeats 4000000 in
theorem light_any (v : Value) (g : G3) (w : World) (h : GAt w v g) (hok : ok3 g) : Calls Try.prog 9 #[v] w (BoolPost (lightG g) w) := by
  obtain ⟨AN, cN, AR, cR, AW, cW, rfl, _, _, _, hN, _, _⟩ := h
  have HN := Lib.hid hN
  have l1 := hok.1.1
  have l2 := hok.2.1.1
  have l3 := hok.2.2.1
  have HOK := Lib.hid hok.1.2
  have HB0 := Lib.hid ((Below.refl w.heap.size w).alloc (Nat.le_refl _) (.cells #[.slice AN g.ns.length cN, .slice AR g.rs.length cR, .slice AW g.ws.length cW] 25))
  clear hN hok
  by_cases h1 : g.ns.length ≤ 60
  · by_cases h2 : g.rs.length ≤ 40
    · by_cases h3 : g.ws.length ≤ 40
      · have HM : Hid (lightG g = g.ns.all (fun x => decide (x.fs.length ≤ 30))) := Lib.hid (by unfold lightG; rw [decide_eq_true h1, decide_eq_true h2, decide_eq_true h3]; rfl)
        obtain ⟨m, hm⟩ : ∃ m, lightG g = m := ⟨_, rfl⟩
        rw [hm] at HM ⊢
        clear hm
        go_enter Try.func9, Try.ntmps9
        go_wp2
        go_loopw [24] (fun i wr => ∃ k : Nat, k ≤ g.ns.length ∧ i = .int .i64 (k : Int) ∧ (g.ns.take k).all (fun x => decide (x.fs.length ≤ 30)) = true ∧ Below w.heap.size w wr) (fun i _ => g.ns.length - (intOf i).toNat)
        case atStart => exact ⟨0, by omega, rfl, rfl, HB0.out⟩
        case round =>
          obtain ⟨k, hk, rfl, hno, hb⟩ := hrel
          have HNO := Lib.hid hno
          clear hno
          by_cases hlt : k < g.ns.length
          · obtain ⟨ad, rfl, y0, A7, c7, y1, _, _⟩ := (HN.out.old hb.block) k hlt
            have HE := Lib.hid (all_take_snoc (d := zN) HNO.out hlt)
            have HF : Hid (decide ((g.ns.getD k zN).fs.length ≤ 30) = false → m = false) := Lib.hid (fun h => by rw [HM.out]; exact all_no (p := fun x : N2 => decide (x.fs.length ≤ 30)) h hlt)
            have hl7 := (HOK.out _ (mem_getD (d := zN) hlt)).2.1
            obtain ⟨x, hx⟩ : ∃ x, g.ns.getD k zN = x := ⟨_, rfl⟩
            rw [hx] at y0 y1 HE HF hl7
            clear hx HNO
            obtain ⟨f0, f1⟩ := x
            dsimp only at y0 y1 HE HF hl7
            have HB1 := Lib.hid (hb.alloc hb.size (.cells #[.int .i64 f0, .slice A7 f1.length c7] 34))
            clear hb
            by_cases h4 : f1.length ≤ 30
            · have HE2 := Lib.hid (HE.out.trans (decide_eq_true h4))
              clear HE HF
              go_wp2
              go_roundw
              case rel => exact ⟨k + 1, by omega, by go_num, HE2.out, HB1.out⟩
              case measure => simp [intOf]; omega
            · have HF2 := Lib.hid (HF.out (decide_eq_false h4))
              clear HE HF
              go_wp2
              go_ret
              rw [HF2.out]
              exact ⟨rfl, HB1.out⟩
          · obtain rfl : k = g.ns.length := by omega
            have HMT : Hid (m = true) := Lib.hid (by
              have := HNO.out
              rw [List.take_length] at this
              rw [HM.out, this])
            clear HM HNO
            go_wp2
            go_ret
            rw [HMT.out]
            exact ⟨rfl, hb⟩
      · have e : lightG g = false := by unfold lightG; rw [decide_eq_false h3]; simp
        rw [e]
        go_enter Try.func9, Try.ntmps9
        go_wp2
        go_ret
        exact ⟨rfl, HB0.out⟩
    · have e : lightG g = false := by unfold lightG; rw [decide_eq_false h2]; simp
      rw [e]
      go_enter Try.func9, Try.ntmps9
      go_wp2
      go_ret
      exact ⟨rfl, HB0.out⟩
  · have e : lightG g = false := by unfold lightG; rw [decide_eq_false h1]; simp
    rw [e]
    go_enter Try.func9, Try.ntmps9
    go_wp2
    go_ret
    exact ⟨rfl, HB0.out⟩
end Go.Proofs.Ytdgclpgjoanimaa.Re
