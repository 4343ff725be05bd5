/-
  A graph's text (graph.Text), by contract.
-/
import Derived.Test.YtdgclpgjoanimaaDoorTb
import Derived.Test.YtdgclpgjoanimaaDoorMb
import Derived.Test.YtdgclpgjoanimaaDoorTm
import Derived.Deep.RegionHeld3
import Derived.Deep.DeepMust
namespace Go.Proofs.YtdgclpgjoanimaaDoor.Tg
open Go.RowKit Go.ChangeShapes Go.WideShapes Go.Proofs.YtdgclpgjoanimaaDoorW.PrintWords Go.Proofs.YtdgclpgjoanimaaDoor.Ba Go.Proofs.YtdgclpgjoanimaaDoor.Ma Go.Proofs.YtdgclpgjoanimaaDoor.Mb Go.Proofs.YtdgclpgjoanimaaDoor.Pu Go.Proofs.YtdgclpgjoanimaaDoor.Wa Go.Proofs.YtdgclpgjoanimaaDoor.To Go.Proofs.YtdgclpgjoanimaaDoor.Tr Go.Proofs.YtdgclpgjoanimaaDoor.Ld Go.Proofs.YtdgclpgjoanimaaDoor.Hx Go.Proofs.YtdgclpgjoanimaaDoor.Tb
set_option linter.unusedVariables false
set_option linter.unusedSimpArgs false
set_option maxRecDepth 100000
theorem cell_alloc {w : World} {a : Addr} {v : Value} (o : Obj) (h : w.cell? a = some v) : (w.alloc o).cell? a = some v := cell_old h ((Below.refl w.heap.size w).alloc (Nat.le_refl _) o).block
theorem later_alloc {w0 w : World} (o : Obj) (h : Below w0.heap.size w0 w) : Below w0.heap.size w0 (w.alloc o) := h.alloc h.size o
theorem kp_alloc {w0 w : World} (o : Obj) (h : Kp w0 w) : Kp w0 (w.alloc o) := h.alloc o
def textR (g : G3) : List UInt8 := if mayG g = true then textG g else []
set_option maxHeartbeats 16000000 in
theorem textg_any (v : Value) (g : G3) (w : World) (h : GAt w v g) (hz : Sz g) (hok : ok3 g) (ht : Tab w) : Calls Tryd.prog 10 #[v] w fun e w' => e = .returned (.string ⟨(textR g).toArray⟩) ∧ Below w.heap.size w w' := by
  have HG := Lib.hid h
  obtain ⟨AN, cN, AR, cR, AW, cW, rfl, _, _, _, hN, hR, hW⟩ := h
  have HN := Lib.hid hN
  have HR := Lib.hid hR
  have HW := Lib.hid hW
  have z1 := hz.r
  have z2 := hz.s
  have HZ := Lib.hid hz.f
  have HOK := Lib.hid hok
  have HTB := Lib.hid (Lib.tabBelow_of_tabIs ht)
  have HM := Lib.hid (fun W (hW : GAt W (.agg #[.slice AN g.ns.length cN, .slice AR g.rs.length cR, .slice AW g.ws.length cW]) g) => Mb.may_any _ g W hW hz)
  obtain ⟨w0, hw0⟩ : ∃ w0, w.alloc (.cells #[.slice AN g.ns.length cN, .slice AR g.rs.length cR, .slice AW g.ws.length cW] 25) = w0 := ⟨_, rfl⟩
  have HB0 : Hid (Below w.heap.size w w0) := Lib.hid (by rw [← hw0]; exact bel_one _ _)
  have HX0 : Hid (w0.heap[w.heap.size]? = some (.cells #[.slice AN g.ns.length cN, .slice AR g.rs.length cR, .slice AW g.ws.length cW] 25 (0, 0))) := Lib.hid (by rw [← hw0]; exact heap_alloc_new w _)
  obtain ⟨x0, x1, x2⟩ := Bx3_one HX0.out
  clear hN hR hW hok ht hz
  cases em : mayG g
  · have HE : Hid (textR g = []) := Lib.hid (by unfold textR; rw [em]; rfl)
    rw [em] at HM
    clear em
    go_enter Tryd.func10, Tryd.ntmps10
    go_wp2_with fail
    refine (HM.out _ (HG.out.below HB0.out)).mono ?_
    rintro e w1 ⟨rfl, hb1⟩
    have HB1 := Lib.hid (HB0.out.trans (hb1.mono HB0.out.size))
    clear hb1
    go_wp2
    go_ret
    rw [HE.out]
    exact ⟨rfl, HB1.out⟩
  have hn := Re.may_len em
  have HE : Hid (textR g = textG g) := Lib.hid (by unfold textR; rw [em]; rfl)
  rw [em] at HM
  clear em
  go_enter Tryd.func10, Tryd.ntmps10
  go_wp2_with fail
  refine (HM.out _ (HG.out.below HB0.out)).mono ?_
  rintro e w1 ⟨rfl, hb1⟩
  have HB1 := Lib.hid (HB0.out.trans (hb1.mono HB0.out.size))
  have HX1 := Lib.hid ((hb1.block _ (bsz HX0.out)).trans HX0.out)
  clear hb1 x0 x1 x2 hw0
  obtain ⟨x0, x1, x2⟩ := Bx3_one HX1.out
  go_wp2
  go_loopw [3, 18] (fun s i wr => ∃ k : Nat, k ≤ g.ns.length ∧ i = .int .i64 (k : Int) ∧ BR wr w.heap.size s (nodesB (g.ns.take k)) ∧ Below w.heap.size w wr ∧ Kp w1 wr) (fun _ i _ => g.ns.length - (intOf i).toNat)
  case atStart => exact ⟨0, by omega, rfl, BR.nil _ _, HB1.out, Lib.OthersKept.refl _ _ _⟩
  case round =>
    obtain ⟨k, hk, rfl, hbr, hb, hkp⟩ := hrel
    have HBR := Lib.hid hbr
    have HBC := Lib.hid hb
    have HKC := Lib.hid hkp
    by_cases hlt : k < g.ns.length
    · obtain ⟨ad, rfl, hc⟩ := HN.out k hlt
      have HE1 : Hid (nodesB (g.ns.take (k + 1)) = nodesB (g.ns.take k) ++ nodeB (g.ns.getD k zN)) := Lib.hid (flat_snoc _ _ zN k hlt)
      have HLN : Hid ((nodesB (g.ns.take k)).length ≤ 143450112) := Lib.hid (by
        have := nodesB_le (l := g.ns.take k) (fun x hx => ⟨HOK.out.1.2 x (List.mem_of_mem_take hx), HZ.out x (List.mem_of_mem_take hx)⟩)
        rw [List.length_take] at this
        omega)
      have hzl := HZ.out _ (mem_getD (d := zN) hlt)
      have hokx := HOK.out.1.2 _ (mem_getD (d := zN) hlt)
      obtain ⟨x, hx⟩ : ∃ x, g.ns.getD k zN = x := ⟨_, rfl⟩
      rw [hx] at hc HE1 hzl hokx
      clear hx
      obtain ⟨y0, A7, c7, y1, _, hf⟩ := hc
      obtain ⟨f0, f1⟩ := x
      dsimp only at y0 y1 hf hzl
      have HFX : Hid (∀ W, Below w.heap.size w W → Fv W A7 f1) := Lib.hid (fun W hW => hf.old hW.block)
      have y0 := cell_old y0 hb.block
      have y1 := cell_old y1 hb.block
      obtain ⟨m0, m1⟩ := i64_bd hokx.1
      have HOF : Hid (∀ v ∈ f1, ok5 v) := Lib.hid hokx.2.2
      have HM0 := Lib.hid m0
      have HM1 := Lib.hid m1
      obtain ⟨wo, hwo⟩ : ∃ wo : World, wo = wr := ⟨_, rfl⟩
      subst hwo
      obtain ⟨w5, hw5⟩ : ∃ w5, wo.alloc (.cells #[.int .i64 f0, .slice A7 f1.length c7] 33) = w5 := ⟨_, rfl⟩
      have HB5 : Hid (Below w.heap.size w w5) := Lib.hid (by rw [← hw5]; exact hb.alloc hb.size _)
      have HBO5 : Hid (Below wo.heap.size wo w5) := Lib.hid (by rw [← hw5]; exact bel_one _ _)
      have HK5 : Hid (Kp w1 w5) := Lib.hid (by rw [← hw5]; exact hkp.alloc _)
      have HX5 : Hid (w5.heap[wo.heap.size]? = some (.cells #[.int .i64 f0, .slice A7 f1.length c7] 33 (0, 0))) := Lib.hid (by rw [← hw5]; exact heap_alloc_new wo _)
      have HBR5 := Lib.hid (hbr.below HBO5.out)
      obtain ⟨n0, n1⟩ := two_cells HX5.out
      clear hbr hb hkp hf m0 m1 hokx
      go_wp2_with fail
      refine (app_int w.heap.size _ _ f0 _ w HM0.out HM1.out HBR5.out HB5.out (Nat.le_refl _) ?c1 HTB.out).mono ?_
      case c1 => have := HLN.out; omega
      rintro e w6 ⟨v6, rfl, hbr6, hb6, hk6⟩
      have hx6 := hk6.cells HX5.out (by decide)
      have HBR6 := Lib.hid hbr6
      have HB6 := Lib.hid hb6
      have HK6 := Lib.hid (HK5.out.trans hk6)
      clear hbr6 hb6 hk6 n0 n1 hw5
      obtain ⟨n0, n1⟩ := two_cells hx6
      obtain ⟨P, hP⟩ : ∃ P, nodesB (g.ns.take k) ++ Lib.itoa f0 = P := ⟨_, rfl⟩
      rw [hP] at HBR6
      have HE2 : Hid (nodesB (g.ns.take (k + 1)) = (P ++ fldB f1) ++ [10]) := Lib.hid (by rw [HE1.out, ← hP]; simp [nodeB])
      have HLP : Hid (P.length ≤ 143450133) := Lib.hid (by
        have h1 := HLN.out
        have h2 := Lib.itoa_length_le f0 HM0.out HM1.out
        rw [← hP, List.length_append]
        omega)
      clear hP HE1
      go_wp2
      go_loopw [3, 29] (fun s i wr => ∃ u : Nat, u ≤ f1.length ∧ i = .int .i64 (u : Int) ∧ BR wr w.heap.size s (P ++ fldB (f1.take u)) ∧ Below w.heap.size w wr ∧ Kp w1 wr) (fun _ i _ => f1.length - (intOf i).toNat)
      case atStart => exact ⟨0, by omega, rfl, by simpa [fldB] using HBR6.out, HB6.out, HK6.out⟩
      case round =>
        obtain ⟨u, hu, rfl, hbr, hb, hkp⟩ := hrel
        have HBR7 := Lib.hid hbr
        have HB7 := Lib.hid hb
        have HK7 := Lib.hid hkp
        by_cases hlt2 : u < f1.length
        · have hfu := HFX.out wr hb
          obtain ⟨ad2, rfl, hc⟩ := hfu u hlt2
          have HE3 : Hid (fldB (f1.take (u + 1)) = fldB (f1.take u) ++ (32 :: textV (f1.getD u z5))) := Lib.hid (flat_snoc _ _ z5 u hlt2)
          have hok5 := HOF.out _ (mem_getD (d := z5) hlt2)
          have HLF : Hid ((fldB (f1.take u)).length ≤ 35000) := Lib.hid (by
            have := fldB_le (l := f1.take u) (fun x hx => HOF.out x (List.mem_of_mem_take hx))
            rw [List.length_take] at this
            omega)
          obtain ⟨x, hx⟩ : ∃ x, f1.getD u z5 = x := ⟨_, rfl⟩
          rw [hx] at hc HE3 hok5
          clear hx hfu
          have HLV := Lib.hid (textV_length x hok5)
          obtain ⟨l, hl⟩ : ∃ l, textV x = l := ⟨_, rfl⟩
          have HTX : Hid (∀ W, Below w.heap.size w W → Calls Tryd.prog 27 #[agg5 x] W fun e w' => e = .returned (.string ⟨l.toArray⟩) ∧ Below W.heap.size W w') := Lib.hid (fun W hW => by rw [← hl]; exact text_any x W hok5 (HTB.out W hW))
          rw [hl] at HE3 HLV
          obtain ⟨q0, q1, q2, q3, q4⟩ := hc
          obtain ⟨e0, e1, e2, e3, e4⟩ := x
          unfold agg5 at HTX
          dsimp only at q0 q1 q2 q3 q4 HTX
          obtain ⟨w7, hw7⟩ : ∃ w7, wr.alloc (.cells #[.int .i64 e0, .int .i64 e1, .int .u64 e2, .int .u64 e3, .int .i64 e4] 36) = w7 := ⟨_, rfl⟩
          have HBO7 : Hid (Below wr.heap.size wr w7) := Lib.hid (by rw [← hw7]; exact bel_one _ _)
          have HB8 : Hid (Below w.heap.size w w7) := Lib.hid (by rw [← hw7]; exact hb.alloc hb.size _)
          have HK8 : Hid (Kp w1 w7) := Lib.hid (by rw [← hw7]; exact hkp.alloc _)
          have HX7 : Hid (w7.heap[wr.heap.size]? = some (.cells #[.int .i64 e0, .int .i64 e1, .int .u64 e2, .int .u64 e3, .int .i64 e4] 36 (0, 0))) := Lib.hid (by rw [← hw7]; exact heap_alloc_new wr _)
          have HBR8 := Lib.hid (hbr.below HBO7.out)
          have hbx : Bx5 w7 wr.heap.size ⟨e0, e1, e2, e3, e4⟩ := HX7.out
          obtain ⟨c0, c1, c2, c3, c4⟩ := hbx.cells
          have HR7 : Hid (Below w7.heap.size w7 w7) := Lib.hid (Below.refl _ _)
          clear hbr hb hkp hl hok5 hbx HBR7 HB7
          go_wp2
          go_region_held3 (fun w' => w'.cell? ⟨wr.heap.size, 0, none⟩ = some (.int .i64 e0) ∧ w'.cell? ⟨wr.heap.size, 1, none⟩ = some (.int .i64 e1) ∧ w'.cell? ⟨wr.heap.size, 2, none⟩ = some (.int .u64 e2) ∧ w'.cell? ⟨wr.heap.size, 3, none⟩ = some (.int .u64 e3) ∧ w'.cell? ⟨wr.heap.size, 4, none⟩ = some (.int .i64 e4))
            (first | ((try dsimp only); refine ⟨?_, ?_, ?_, ?_, ?_⟩ <;> (repeat (first | (with_reducible assumption) | (with_reducible apply cell_drew) | (with_reducible apply cell_alloc)))) | fail)
            (first
              | ((with_reducible show ite _ _ _); refine st_lit (w0 := w) (by rfl) (.tmp 33) (.tmp 34) (by rfl) _ (P ++ fldB (f1.take u)) 32 _ w.heap.size (by rfl) (by rfl) (heap_alloc_new _ _) (HBR8.out.below (by (repeat (first | exact HR7.out | apply Below.drew | apply later_alloc)))) (by (repeat (first | exact HB8.out | apply Below.drew | (refine Below.alloc ?_ HB8.out.size _)))) (Nat.le_refl _) (by have := HLP.out; have := HLF.out; simp only [List.length_append]; omega) ?_; intro v20 w20 hbr20 hb20 hk20; have HBR20 := Lib.hid hbr20; have HB20 := Lib.hid hb20; have HK20 : Hid (Kp w7 w20) := Lib.hid (Lib.OthersKept.trans (by (repeat (first | exact Lib.OthersKept.refl _ _ _ | apply Lib.OthersKept.drew | apply kp_alloc))) hk20); have HX20 := Lib.hid (HK20.out.cells HX7.out (by decide)); clear hbr20 hb20 hk20; obtain ⟨c0, c1, c2, c3, c4⟩ := Bx5.cells (show Bx5 w20 wr.heap.size ⟨e0, e1, e2, e3, e4⟩ from HX20.out))
              | (go_at_call 27; go_must (refine (HTX.out _ HB20.out).mono ?_; rintro e w21 ⟨rfl, hb21⟩; have HBR21 := Lib.hid (HBR20.out.below hb21); have HB21 := Lib.hid (HB20.out.trans (hb21.mono HB20.out.size)); have HK21 : Hid (Kp w7 w21) := Lib.hid (HK20.out.trans (kp_below hb21)); have HX21 := Lib.hid (HK21.out.cells HX7.out (by decide)); obtain ⟨c0, c1, c2, c3, c4⟩ := Bx5.cells (show Bx5 w21 wr.heap.size ⟨e0, e1, e2, e3, e4⟩ from HX21.out)))
              | ((with_reducible show ite _ _ _); refine st_str (w0 := w) (by rfl) (.tmp 35) (.tmp 37) (by rfl) _ _ l w.heap.size (by rfl) (by rfl) HBR21.out HB21.out (Nat.le_refl _) (by have := HLP.out; have := HLF.out; have := HLV.out; simp only [List.length_append, List.length_cons, List.length_nil]; omega) ?_; intro v22 w22 hbr22 hb22 hk22; have HBR22 := Lib.hid hbr22; have HB22 := Lib.hid hb22; have HK22 : Hid (Kp w7 w22) := Lib.hid (HK21.out.trans hk22); have HX22 := Lib.hid (HK22.out.cells HX7.out (by decide)); clear hbr22 hb22 hk22; obtain ⟨c0, c1, c2, c3, c4⟩ := Bx5.cells (show Bx5 w22 wr.heap.size ⟨e0, e1, e2, e3, e4⟩ from HX22.out))
              | fail)
          all_goals
            have HBR23 : Hid (BR w22 w.heap.size v22 (P ++ fldB (f1.take (u + 1)))) := Lib.hid (by rw [HE3.out]; simpa [List.append_assoc] using HBR22.out)
            go_wp2
            go_roundw
            case rel => exact ⟨u + 1, by omega, by go_num, HBR23.out, HB22.out, HK8.out.trans HK22.out⟩
            case measure => simp [intOf]; omega
        · obtain rfl : u = f1.length := by omega
          rw [List.take_length] at hbr
          have HBR8 := Lib.hid hbr
          have HLF : Hid ((fldB f1).length ≤ 35000) := Lib.hid (by have := fldB_le HOF.out; omega)
          clear hbr hb hkp HBR7
          go_wp2_with (at_builtin; refine wl_lit (w0 := w) rfl (.tmp 40) (.tmp 41) rfl _ (P ++ fldB f1) 10 wr.heap.size w.heap.size rfl rfl (heap_alloc_new _ _) (HBR8.out.below (bel_one _ _)) (HB7.out.alloc HB7.out.size _) (Nat.le_refl _) ?c1 ?_)
          case c1 => have := HLP.out; have := HLF.out; simp only [List.length_append]; omega
          intro v2 w11 hbr2 hb2 hk2
          have HBR9 : Hid (BR w11 w.heap.size v2 (nodesB (g.ns.take (k + 1)))) := Lib.hid (by rw [HE2.out]; simpa [List.append_assoc] using hbr2)
          have HB9 := Lib.hid hb2
          have HK9 := Lib.hid (HK7.out.trans ((Lib.OthersKept.refl 5 none _).alloc _ |>.trans hk2))
          clear hbr2 hb2 hk2
          go_wp2
          go_roundw
          case rel => exact ⟨k + 1, by omega, by go_num, HBR9.out, HB9.out, HK9.out⟩
          case measure => simp [intOf]; omega
    · obtain rfl : k = g.ns.length := by omega
      rw [List.take_length] at hbr
      obtain ⟨M, hM⟩ : ∃ M, nodesB g.ns = M := ⟨_, rfl⟩
      rw [hM] at hbr
      have HLM : Hid (M.length ≤ 143450112) := Lib.hid (by
        rw [← hM]
        have := nodesB_le (l := g.ns) (fun x hx => ⟨HOK.out.1.2 x hx, HZ.out x hx⟩)
        omega)
      have HLEN : Hid (M.length ≤ 143500000) := Lib.hid (by have := HLM.out; omega)
      have hx8 := HKC.out.cells HX1.out (by decide)
      obtain ⟨M1, hM1⟩ : ∃ M1, M ++ (rootsB ++ intsB g.rs ++ [10]) = M1 := ⟨_, rfl⟩
      obtain ⟨M2, hM2⟩ : ∃ M2, M1 ++ (weaksB ++ intsB g.ws ++ [10]) = M2 := ⟨_, rfl⟩
      have HTXT : Hid (textG g = M2) := Lib.hid (by rw [← hM2, ← hM1, ← hM]; rfl)
      have HM1 := Lib.hid hM1
      have HM2 := Lib.hid hM2
      have HOR : Hid (∀ y ∈ g.rs, wf64 y) := Lib.hid HOK.out.2.1.2
      have HOW : Hid (∀ y ∈ g.ws, wf64 y) := Lib.hid HOK.out.2.2.2
      have HLEN1 : Hid (M1.length ≤ 143500000) := Lib.hid (by
        have h1 := HLM.out
        have h2 := intsB_le HOR.out
        have h3 : rootsB.length = 5 := rfl
        rw [← hM1]
        simp only [List.length_append, List.length_cons, List.length_nil]
        omega)
      obtain ⟨wo, hwo⟩ : ∃ wo : World, wo = wr := ⟨_, rfl⟩
      subst hwo
      obtain ⟨w9, hw9⟩ : ∃ w9, wo.alloc (.cells #[.slice AR g.rs.length cR, .slice AW g.ws.length cW] 23) = w9 := ⟨_, rfl⟩
      have HQ9 : Hid (w9.heap[wo.heap.size]? = some (.cells #[.slice AR g.rs.length cR, .slice AW g.ws.length cW] 23 (0, 0))) := Lib.hid (by rw [← hw9]; exact heap_alloc_new wo _)
      have HB9 : Hid (Below w.heap.size w w9) := Lib.hid (by rw [← hw9]; exact hb.alloc hb.size _)
      have HBR9 : Hid (BR w9 w.heap.size _ M) := Lib.hid (by rw [← hw9]; exact hbr.below (bel_one _ _))
      clear hbr hb hkp hM hM1 hM2 x0 x1 x2
      obtain ⟨x0, x1, x2⟩ := Bx3_one hx8
      go_wp2
      go_loopw [3, 50] (fun s i wr => ((i = .int .i64 0 ∧ BR wr w.heap.size s M) ∨ (i = .int .i64 1 ∧ BR wr w.heap.size s M1) ∨ (i = .int .i64 2 ∧ BR wr w.heap.size s M2)) ∧ Below w.heap.size w wr ∧ Kp w9 wr) (fun _ i _ => 2 - (intOf i).toNat)
      case atStart => exact ⟨.inl ⟨rfl, HBR9.out⟩, HB9.out, Lib.OthersKept.refl _ _ _⟩
      case round =>
        obtain ⟨hcase, hb, hk⟩ := hrel
        have HBC := Lib.hid hb
        have HKC := Lib.hid hk
        obtain ⟨q0, q1⟩ := two_cells (hk.cells HQ9.out (by decide))
        rcases hcase with ⟨rfl, hbr⟩ | ⟨rfl, hbr⟩ | ⟨rfl, hbr⟩
        · have HBR := Lib.hid hbr
          clear hbr hb hk
          go_wp2_with (at_builtin; refine wl_str (w0 := w) rfl (.tmp 55) (.tmp 59) rfl _ M rootsB w.heap.size rfl rfl (HBR.out.below (bel_one _ _)) (HBC.out.alloc HBC.out.size _) (Nat.le_refl _) ?c1 ?_)
          case c1 => have := HLEN.out; have : rootsB.length = 5 := rfl; omega
          intro v1 w10 hbr1 hb1 hk1
          have HBR1 := Lib.hid hbr1
          have HB1' := Lib.hid hb1
          have HK1 : Hid (Kp w9 w10) := Lib.hid ((HKC.out.alloc _).trans hk1)
          clear hbr1 hb1 hk1 q0 q1
          go_wp2
          go_loopw [3, 63] (fun s i wr => ∃ u : Nat, u ≤ g.rs.length ∧ i = .int .i64 (u : Int) ∧ BR wr w.heap.size s (M ++ (rootsB ++ intsB (g.rs.take u))) ∧ Below w.heap.size w wr ∧ Kp w9 wr) (fun _ i _ => g.rs.length - (intOf i).toNat)
          case atStart => exact ⟨0, by omega, rfl, by simpa [intsB] using HBR1.out, HB1'.out, HK1.out⟩
          case round =>
            obtain ⟨u, hu, rfl, hbr, hb, hk⟩ := hrel
            have HBR2 := Lib.hid hbr
            have HBC2 := Lib.hid hb
            have HKC2 := Lib.hid hk
            by_cases hlt : u < g.rs.length
            · obtain ⟨ad, rfl, hc⟩ := (HR.out.below hb.block) u hlt
              have HE5 : Hid (intsB (g.rs.take (u + 1)) = intsB (g.rs.take u) ++ (32 :: Lib.itoa (g.rs.getD u 0))) := Lib.hid (flat_snoc _ _ 0 u hlt)
              obtain ⟨n0, n1⟩ := i64_bd (HOR.out _ (mem_getD (d := 0) hlt))
              have HLI : Hid ((intsB (g.rs.take u)).length ≤ 22000) := Lib.hid (by
                have := intsB_le (l := g.rs.take u) (fun x hx => HOR.out x (List.mem_of_mem_take hx))
                rw [List.length_take] at this
                omega)
              obtain ⟨x, hx⟩ : ∃ x, g.rs.getD u 0 = x := ⟨_, rfl⟩
              rw [hx] at hc HE5 n0 n1
              have HN0 := Lib.hid n0
              have HN1 := Lib.hid n1
              clear hx hbr hb hk n0 n1
              go_wp2_with (at_builtin; refine wl_lit (w0 := w) rfl (.tmp 67) (.tmp 68) rfl _ (M ++ (rootsB ++ intsB (g.rs.take u))) 32 wr.heap.size w.heap.size rfl rfl (heap_alloc_new _ _) (HBR2.out.below (bel_one _ _)) (HBC2.out.alloc HBC2.out.size _) (Nat.le_refl _) ?c1 ?_)
              case c1 => have := HLEN.out; have := HLI.out; have : rootsB.length = 5 := rfl; simp only [List.length_append]; omega
              intro v2 w11 hbr2 hb2 hk2
              have HK3 : Hid (Kp w9 w11) := Lib.hid ((HKC2.out.alloc _).trans hk2)
              have HBR3 : Hid (BR w11 w.heap.size v2 ((M ++ (rootsB ++ intsB (g.rs.take u))) ++ [32])) := Lib.hid (by simpa [List.append_assoc] using hbr2)
              have HB3 := Lib.hid hb2
              clear hbr2 hb2 hk2
              go_wp2_with fail
              refine (app_int w.heap.size _ _ x _ w HN0.out HN1.out HBR3.out HB3.out (Nat.le_refl _) ?c1 HTB.out).mono ?_
              case c1 => have := HLEN.out; have := HLI.out; have : rootsB.length = 5 := rfl; simp only [List.length_append, List.length_cons, List.length_nil]; omega
              rintro e w12 ⟨v3, rfl, hbr3, hb3, hk3⟩
              have HBR4 : Hid (BR w12 w.heap.size v3 (M ++ (rootsB ++ intsB (g.rs.take (u + 1))))) := Lib.hid (by rw [HE5.out]; simpa [List.append_assoc] using hbr3)
              have HB4 := Lib.hid hb3
              have HK4 : Hid (Kp w9 w12) := Lib.hid (HK3.out.trans hk3)
              clear hbr3 hb3 hk3
              go_wp2
              go_roundw
              case rel => exact ⟨u + 1, by omega, by go_num, HBR4.out, HB4.out, HK4.out⟩
              case measure => simp [intOf]; omega
            · obtain rfl : u = g.rs.length := by omega
              rw [List.take_length] at hbr
              have HBR3 := Lib.hid hbr
              have HLI : Hid ((intsB g.rs).length ≤ 22000) := Lib.hid (by have := intsB_le HOR.out; omega)
              clear hbr hb hk HBR2
              go_wp2_with (at_builtin; refine wl_lit (w0 := w) rfl (.tmp 73) (.tmp 74) rfl _ (M ++ (rootsB ++ intsB g.rs)) 10 wr.heap.size w.heap.size rfl rfl (heap_alloc_new _ _) (HBR3.out.below (bel_one _ _)) (HBC2.out.alloc HBC2.out.size _) (Nat.le_refl _) ?c1 ?_)
              case c1 => have := HLEN.out; have := HLI.out; have : rootsB.length = 5 := rfl; simp only [List.length_append]; omega
              intro v2 w11 hbr2 hb2 hk2
              have HBR5 : Hid (BR w11 w.heap.size v2 M1) := Lib.hid (by rw [← HM1.out]; simpa [List.append_assoc] using hbr2)
              have HB5 := Lib.hid hb2
              have HK5 : Hid (Kp w9 w11) := Lib.hid ((HKC2.out.alloc _).trans hk2)
              clear hbr2 hb2 hk2
              go_wp2
              go_roundw
              case rel => exact ⟨.inr (.inl ⟨rfl, HBR5.out⟩), HB5.out, HK5.out⟩
              case measure => simp [intOf]
        · have HBR := Lib.hid hbr
          clear hbr hb hk
          go_wp2_with (at_builtin; refine wl_str (w0 := w) rfl (.tmp 55) (.tmp 59) rfl _ M1 weaksB w.heap.size rfl rfl (HBR.out.below (bel_one _ _)) (HBC.out.alloc HBC.out.size _) (Nat.le_refl _) ?c1 ?_)
          case c1 => have := HLEN1.out; have : weaksB.length = 5 := rfl; omega
          intro v1 w10 hbr1 hb1 hk1
          have HBR1 := Lib.hid hbr1
          have HB1' := Lib.hid hb1
          have HK1 : Hid (Kp w9 w10) := Lib.hid ((HKC.out.alloc _).trans hk1)
          clear hbr1 hb1 hk1 q0 q1
          go_wp2
          go_loopw [3, 63] (fun s i wr => ∃ u : Nat, u ≤ g.ws.length ∧ i = .int .i64 (u : Int) ∧ BR wr w.heap.size s (M1 ++ (weaksB ++ intsB (g.ws.take u))) ∧ Below w.heap.size w wr ∧ Kp w9 wr) (fun _ i _ => g.ws.length - (intOf i).toNat)
          case atStart => exact ⟨0, by omega, rfl, by simpa [intsB] using HBR1.out, HB1'.out, HK1.out⟩
          case round =>
            obtain ⟨u, hu, rfl, hbr, hb, hk⟩ := hrel
            have HBR2 := Lib.hid hbr
            have HBC2 := Lib.hid hb
            have HKC2 := Lib.hid hk
            by_cases hlt : u < g.ws.length
            · obtain ⟨ad, rfl, hc⟩ := (HW.out.below hb.block) u hlt
              have HE5 : Hid (intsB (g.ws.take (u + 1)) = intsB (g.ws.take u) ++ (32 :: Lib.itoa (g.ws.getD u 0))) := Lib.hid (flat_snoc _ _ 0 u hlt)
              obtain ⟨n0, n1⟩ := i64_bd (HOW.out _ (mem_getD (d := 0) hlt))
              have HLI : Hid ((intsB (g.ws.take u)).length ≤ 22000) := Lib.hid (by
                have := intsB_le (l := g.ws.take u) (fun x hx => HOW.out x (List.mem_of_mem_take hx))
                rw [List.length_take] at this
                omega)
              obtain ⟨x, hx⟩ : ∃ x, g.ws.getD u 0 = x := ⟨_, rfl⟩
              rw [hx] at hc HE5 n0 n1
              have HN0 := Lib.hid n0
              have HN1 := Lib.hid n1
              clear hx hbr hb hk n0 n1
              go_wp2_with (at_builtin; refine wl_lit (w0 := w) rfl (.tmp 67) (.tmp 68) rfl _ (M1 ++ (weaksB ++ intsB (g.ws.take u))) 32 wr.heap.size w.heap.size rfl rfl (heap_alloc_new _ _) (HBR2.out.below (bel_one _ _)) (HBC2.out.alloc HBC2.out.size _) (Nat.le_refl _) ?c1 ?_)
              case c1 => have := HLEN1.out; have := HLI.out; have : weaksB.length = 5 := rfl; simp only [List.length_append]; omega
              intro v2 w11 hbr2 hb2 hk2
              have HK3 : Hid (Kp w9 w11) := Lib.hid ((HKC2.out.alloc _).trans hk2)
              have HBR3 : Hid (BR w11 w.heap.size v2 ((M1 ++ (weaksB ++ intsB (g.ws.take u))) ++ [32])) := Lib.hid (by simpa [List.append_assoc] using hbr2)
              have HB3 := Lib.hid hb2
              clear hbr2 hb2 hk2
              go_wp2_with fail
              refine (app_int w.heap.size _ _ x _ w HN0.out HN1.out HBR3.out HB3.out (Nat.le_refl _) ?c1 HTB.out).mono ?_
              case c1 => have := HLEN1.out; have := HLI.out; have : weaksB.length = 5 := rfl; simp only [List.length_append, List.length_cons, List.length_nil]; omega
              rintro e w12 ⟨v3, rfl, hbr3, hb3, hk3⟩
              have HBR4 : Hid (BR w12 w.heap.size v3 (M1 ++ (weaksB ++ intsB (g.ws.take (u + 1))))) := Lib.hid (by rw [HE5.out]; simpa [List.append_assoc] using hbr3)
              have HB4 := Lib.hid hb3
              have HK4 : Hid (Kp w9 w12) := Lib.hid (HK3.out.trans hk3)
              clear hbr3 hb3 hk3
              go_wp2
              go_roundw
              case rel => exact ⟨u + 1, by omega, by go_num, HBR4.out, HB4.out, HK4.out⟩
              case measure => simp [intOf]; omega
            · obtain rfl : u = g.ws.length := by omega
              rw [List.take_length] at hbr
              have HBR3 := Lib.hid hbr
              have HLI : Hid ((intsB g.ws).length ≤ 22000) := Lib.hid (by have := intsB_le HOW.out; omega)
              clear hbr hb hk HBR2
              go_wp2_with (at_builtin; refine wl_lit (w0 := w) rfl (.tmp 73) (.tmp 74) rfl _ (M1 ++ (weaksB ++ intsB g.ws)) 10 wr.heap.size w.heap.size rfl rfl (heap_alloc_new _ _) (HBR3.out.below (bel_one _ _)) (HBC2.out.alloc HBC2.out.size _) (Nat.le_refl _) ?c1 ?_)
              case c1 => have := HLEN1.out; have := HLI.out; have : weaksB.length = 5 := rfl; simp only [List.length_append]; omega
              intro v2 w11 hbr2 hb2 hk2
              have HBR5 : Hid (BR w11 w.heap.size v2 M2) := Lib.hid (by rw [← HM2.out]; simpa [List.append_assoc] using hbr2)
              have HB5 := Lib.hid hb2
              have HK5 : Hid (Kp w9 w11) := Lib.hid ((HKC2.out.alloc _).trans hk2)
              clear hbr2 hb2 hk2
              go_wp2
              go_roundw
              case rel => exact ⟨.inr (.inr ⟨rfl, HBR5.out⟩), HB5.out, HK5.out⟩
              case measure => simp [intOf]
        · have hpos : 0 < M2.length := by rw [← HM2.out]; simp only [List.length_append, List.length_cons, List.length_nil]; omega
          obtain ⟨gb, cap, rfl, hcv⟩ := row_string wr w.heap.size _ M2 hpos hbr
          clear hbr hk q0 q1 hpos
          go_wp2
          go_ret
          rw [HE.out, HTXT.out]
          exact ⟨rfl, hb⟩
end Go.Proofs.YtdgclpgjoanimaaDoor.Tg
