/-
  How nodes are numbered makes no difference to what a graph is like: the graph with its nodes turned, trimmed, or with a node that no root reaches, is alike; trimmed again it is the same; with a value more in a node that is reached it is told apart.
-/
import Derived.Test.YtdgclpgjoanimaaRows
import Derived.WalkKit
import Derived.WalkSpells
import Derived.WalkLawsBesides
import Derived.WalkMore
import Derived.ProofKit
import Derived.OpenShut
import Derived.ShutString
import Derived.ChangeOld
import Derived.Below
import Derived.SizedLaws
import Derived.Lib.Hide
import Derived.Test.YtdgclpgjoanimaaOpen
import Derived.Test.YtdgclpgjoanimaaRx
import Derived.Deep.RegionHeld3
import Derived.Deep.DeepMust
import Derived.Deep.CutRange
namespace Go.Proofs.Ytdgclpgjoanimaa.graphAlike
open Go.RowKit Go.ChangeShapes Go.WideShapes Go.ChangeAt Go.Proofs.YtdgclpgjoanimaaW.PrintWords
set_option linter.unusedVariables false
open Go.Proofs.Ytdgclpgjoanimaa.Ba Go.Proofs.Ytdgclpgjoanimaa.Ma Go.Proofs.Ytdgclpgjoanimaa.Mb Go.Proofs.Ytdgclpgjoanimaa.Pu Go.Proofs.Ytdgclpgjoanimaa.Wa Go.Proofs.Ytdgclpgjoanimaa.To Go.Proofs.Ytdgclpgjoanimaa.Tr Go.Proofs.Ytdgclpgjoanimaa.Tp Go.Proofs.Ytdgclpgjoanimaa.Eq Go.Proofs.Ytdgclpgjoanimaa.Rw Go.Proofs.Ytdgclpgjoanimaa.Rx
theorem cell_far3 {w : World} {g h k : Nat} {a b c v : Value} (hc : w.cell? ⟨h, k, none⟩ = some v) (hne : h ≠ g) : (((w.setCell ⟨g, 0, none⟩ a).setCell ⟨g, 1, none⟩ b).setCell ⟨g, 2, none⟩ c).cell? ⟨h, k, none⟩ = some v :=
  cell_far (cell_far (cell_far hc hne) hne) hne
theorem k5_KM {w W : World} {base : Nat} {ok : Nat → Prop} {x : V5} {cs : List Value} (h : k5.K w x cs) : k5.M W base ok x cs := h
theorem rows_app5 {ops : Array Oper} {o : Oper} {a : Act} {W w0 : World} {Q : Exit → Act → World → Prop} {Kc : Act → World → Prop} (hw : Region.wanted o (yielded ops a.tmps) = true) (s x : Operand)
    (ho : o.op = .call { callee := .builtin .append, args := #[s, x], argTypes := #[32, 32] }) (v : Value) (xs ys : List V5) (A : Option Addr) (m c : Nat) (hs : a.eval s = v) (hx : a.eval x = .slice A m c) (hm : m = ys.length)
    (HO : k5.R 37 W w0.heap.size (fun _ => True) v xs) (HR : Kd.C k5 W A ys.length ys) (HB : Below w0.heap.size w0 W) (hl : xs.length + ys.length ≤ 10000)
    (h : ∀ A1 c1 w1, k5.R 37 w1 w0.heap.size (fun _ => True) (.slice A1 (xs ++ ys).length c1) (xs ++ ys) → Below w0.heap.size w0 w1 → W.grownBy w1 v.ownBlock → Kc (a.put o.dst (.slice A1 (xs ++ ys).length c1)) w1) :
    if Region.wanted o (yielded ops a.tmps) = true then Oper.wp Try.prog o a W Kc Q else Kc (a.put o.dst undef) W := by
  subst hm
  refine Kd.R_append_rows_step (P := Try.prog) k5 (w0 := w0) (W := W) (Rr := k5.K W) w0.heap.size hw s x 32 37 zV 40 ho Try.underlying32 info5 rfl (by decide) (by decide) v xs ys A ys.length c (fun _ => True) (fun _ => False) hs hx HO HR (fun _ _ h => k5_KM h) (fun _ h => h.elim) (fun _ _ => trivial) HB HB.size (by omega) ?_
  intro v1 w1 hr1 hb1 hg1 hat1
  obtain ⟨A1, c1, e, _, _⟩ := Kd.R_reads hr1
  subst e
  exact h A1 c1 w1 hr1 hb1 hg1
theorem lit5 {w : World} {g : Nat} {x : V5} (h : Bx5 w g x) : Kd.C k5 w (some ⟨g, 0, none⟩) 1 [x] := by
  obtain ⟨c0, c1, c2, c3, c4⟩ := h.cells
  refine c_of_fv (l := [x]) (fun i hi => ?_) (by simp)
  obtain rfl : i = 0 := by simpa using hi
  refine ⟨_, rfl, ?_⟩
  rw [show (Addr.mk g 0 none).add (0 * 5) = ⟨g, 0, none⟩ from add_M g 0]
  exact ⟨c0, c1, c2, c3, c4⟩
theorem rows_gat2 {W wF : World} {AR AW A AN : Option Addr} {cR cW c cN base nN nR nW : Nat} {rl : List Raw} {g j : G3} (hG : GAt W (.agg #[.slice AN nN cN, .slice AR nR cR, .slice AW nW cW]) g) (hro : RawsOk wF rl j.ns) (hb : Below W.heap.size W wF)
    (hr : kR.R 34 wF base (fun _ => True) (.slice A rl.length c) rl) (e1 : j.rs = g.rs) (e2 : j.ws = g.ws) : GAt wF (.agg #[.slice A rl.length c, .slice AR nR cR, .slice AW nW cW]) j := by
  obtain ⟨AN', cN', AR', cR', AW', cW', e, _⟩ := id hG
  injection e with e
  have e' : [Value.slice AN nN cN, .slice AR nR cR, .slice AW nW cW] = [.slice AN' g.ns.length cN', .slice AR' g.rs.length cR', .slice AW' g.ws.length cW'] := congrArg Array.toList e
  simp only [List.cons.injEq, Value.slice.injEq, and_true, true_and] at e'
  obtain ⟨⟨rfl, rfl, rfl⟩, ⟨rfl, rfl, rfl⟩, rfl, rfl, rfl⟩ := e'
  exact rows_gat hG hro hb hr e1 e2
theorem cell_far2 {w : World} {a : Addr} {g k l : Nat} {x y v : Value} (hc : w.cell? a = some v) (hne : a.block ≠ g) : ((w.setCell ⟨g, k, none⟩ x).setCell ⟨g, l, none⟩ y).cell? a = some v :=
  cell_far (cell_far hc hne) hne
theorem cell_lt {w : World} {a : Addr} {v : Value} (hc : w.cell? a = some v) : a.block < w.heap.size := by
  cases hh : w.heap[a.block]? with
  | none =>
    unfold World.cell? at hc
    rw [hh] at hc
    simp at hc
  | some x => exact (Array.getElem?_eq_some_iff.1 hh).1
theorem k5_E : ∀ q, q ∈ 37 :: k5.E → q ≠ 34 := by decide
theorem node_set {wc wd W : World} {M cU d : Nat} {A : Option Addr} {c : Nat} {rt : List Raw} {t : G3} {n kd : Int} {fs : List V5} {cs : Array Value}
    (hRU : kR.R 34 W wc.heap.size (fun _ => True) (.slice (some ⟨M, 0, none⟩) rt.length cU) rt) (hd : d < rt.length) (hR : k5.R 37 W wd.heap.size (fun _ => True) (.slice A (([] ++ fs) ++ [(⟨1, n, 0, 0, 0⟩ : V5)]).length c) (([] ++ fs) ++ [(⟨1, n, 0, 0, 0⟩ : V5)]))
    (hM : W.heap[M]? = some (.cells cs 34 (0, 0))) (hMM : wc.heap.size ≤ M) (hB : Below wc.heap.size wc W) (hro : RawsOk wc rt t.ns) (e : t.ns.getD d zN = ⟨kd, fs⟩) :
    ∃ wF, (W.setCell ⟨M, d * 2, none⟩ (.int .i64 kd)).setCell ⟨M, d * 2 + 1, none⟩ (.slice A (fs.length + 1) c) = wF ∧ Below wc.heap.size wc wF ∧ W.grownBy wF (some M) ∧
      kR.R 34 wF wc.heap.size (fun _ => True) (.slice (some ⟨M, 0, none⟩) (rt.set d (kd, (A, fs.length + 1, c))).length cU) (rt.set d (kd, (A, fs.length + 1, c))) ∧ RawsOk wF (rt.set d (kd, (A, fs.length + 1, c))) (moreG t d n).ns := by
  have h1 := rr_set hRU hd (kd, (A, fs.length + 1, c))
  have hg : W.grownBy ((W.setCell ⟨M, d * 2, none⟩ (.int .i64 kd)).setCell ⟨M, d * 2 + 1, none⟩ (.slice A (fs.length + 1) c)) (some M) := grown_trans (grown_set W M _ _) (grown_set _ M _ _)
  have hb : Below wc.heap.size wc ((W.setCell ⟨M, d * 2, none⟩ (.int .i64 kd)).setCell ⟨M, d * 2 + 1, none⟩ (.slice A (fs.length + 1) c)) := hB.trans (bel_grown hg hMM hB.size)
  have h5 := Kd.R_set (Kd.R_set hR hM k5_E (d * 2) (.int .i64 kd)) (set_block hM (d * 2) (.int .i64 kd)) k5_E (d * 2 + 1) (.slice A (fs.length + 1) c)
  obtain ⟨_, hc, hC⟩ := Kd.R_reads' h5
  have hl : (([] ++ fs) ++ [(⟨1, n, 0, 0, 0⟩ : V5)]).length = fs.length + 1 := by simp
  have hfv := fd_C hC (Nat.le_refl _)
  rw [List.nil_append] at hfv
  refine ⟨_, rfl, hb, hg, ?_, ?_⟩
  · rw [List.length_set]; exact h1
  · show RawsOk _ _ (t.ns.set d ⟨(t.ns.getD d zN).kd, (t.ns.getD d zN).fs ++ [⟨1, n, 0, 0, 0⟩]⟩)
    rw [e]
    refine (hro.old hb.block).set d ⟨rfl, ?_, ?_, hfv⟩
    · show fs.length + 1 = (fs ++ [(⟨1, n, 0, 0, 0⟩ : V5)]).length
      simp
    · show (fs ++ [(⟨1, n, 0, 0, 0⟩ : V5)]).length ≤ c
      rw [hl] at hc
      rw [List.length_append]
      exact hc
set_option maxHeartbeats 16000000
set_option maxRecDepth 100000
theorem walk (w : World) (v0 : Value) (x0 : Ba.G3) (hk0 : Ba.GAt w v0 x0) (ok0 : Ba.ok3 x0) (a1 : Int) (w1 : (Lit.int .i64 a1).wf = true) (v2 : Value) (x2 : Ba.N2) (hk2 : Rw.NdV w v2 x2) (ok2 : Ba.ok2 x2) (a3 : Int) (w3 : (Lit.int .i64 a3).wf = true) (a4 : Int) (w4 : (Lit.int .i64 a4).wf = true) :
    Calls Try.prog 7 #[v0, .int .i64 a1, v2, .int .i64 a3, .int .i64 a4] w fun e w' => e = .returned (.bool true) ∧ Below w.heap.size w w' := by
  have HG := Lib.hid hk0
  have HO := Lib.hid ok0
  obtain ⟨AN, cN, AR, cR, AW, cW, rfl, _⟩ := Al.ga_of hk0
  obtain ⟨nN, hnN⟩ : ∃ n, x0.ns.length = n := ⟨_, rfl⟩
  obtain ⟨nR, hnR⟩ : ∃ n, x0.rs.length = n := ⟨_, rfl⟩
  obtain ⟨nW, hnW⟩ : ∃ n, x0.ws.length = n := ⟨_, rfl⟩
  have HNL := Lib.hid hnN
  have HRL := Lib.hid hnR
  have HWL := Lib.hid hnW
  rw [hnN, hnR, hnW] at HG ⊢
  obtain ⟨AJ, cJ, rfl, hcJ, hJ⟩ := hk2
  have HJ := Lib.hid hJ
  have hJl := ok2.2.1
  obtain ⟨w1, hw1⟩ : ∃ w1, (w.alloc (.cells #[.slice AN nN cN, .slice AR nR cR, .slice AW nW cW] 25)).alloc (.cells #[.int .i64 x2.kd, .slice AJ x2.fs.length cJ] 34) = w1 := ⟨_, rfl⟩
  have HB1 : Hid (Below w.heap.size w w1) := Lib.hid (by rw [← hw1]; exact ((Below.refl _ _).alloc (Nat.le_refl _) _).alloc (by simp) _)
  have hgx : w1.heap[w.heap.size]? = some (.cells #[.slice AN nN cN, .slice AR nR cR, .slice AW nW cW] 25 (0, 0)) := by
    rw [← hw1]
    exact (((Below.refl (w.heap.size + 1) _).alloc (by simp) _).block w.heap.size (by omega)).trans (heap_alloc_new w _)
  have HG1 : Hid (GB w1 w.heap.size (.slice AN nN cN) (.slice AR nR cR) (.slice AW nW cW) x0) := Lib.hid ⟨hgx, HG.out.below HB1.out⟩
  have HJ1 : Hid (w1.heap[w.heap.size + 1]? = some (.cells #[.int .i64 x2.kd, .slice AJ x2.fs.length cJ] 34 (0, 0))) := Lib.hid (by
    rw [← hw1, ← size_al w (.cells #[.slice AN nN cN, .slice AR nR cR, .slice AW nW cW] 25)]; exact heap_alloc_new _ _)
  have HLT := Lib.hid (Re.light_any _ x0 w1 HG1.out.g HO.out)
  obtain ⟨k0, k1, k2⟩ := HG1.out.cells
  clear hk0 ok0 ok2 hJ hgx hnN hnR hnW
  cases el : Re.lightG x0
  · rw [el] at HLT
    clear el
    go_enter Try.func7, Try.ntmps7
    go_wp2_with fail
    refine HLT.out.mono ?_
    rintro e w2 ⟨rfl, hb2⟩
    have HB2 := Lib.hid (HB1.out.trans (hb2.mono HB1.out.size))
    clear hb2
    go_wp2_with fail
    refine (Aw.awake_any _).mono ?_
    rintro e w3 ⟨rfl, hb3⟩
    have HB3 := Lib.hid (HB2.out.trans (hb3.mono HB2.out.size))
    go_wp2
    go_ret
    exact ⟨rfl, HB3.out⟩
  have hz := Re.light_sz el
  obtain ⟨hn, hnr, hnw, hnf⟩ := Re.light_ns el
  rw [HNL.out] at hn
  rw [HRL.out] at hnr
  rw [HWL.out] at hnw
  have HNF := Lib.hid hnf
  clear hnf
  rw [el] at HLT
  clear el
  have HZ := Lib.hid hz
  have HM1 : Hid (∀ W, GAt W (.agg #[.slice AN nN cN, .slice AR nR cR, .slice AW nW cW]) x0 → Calls Try.prog 11 #[.agg #[.slice AN nN cN, .slice AR nR cR, .slice AW nW cW]] W (BoolPost (mayG x0) W)) := Lib.hid (fun W h => may_any _ x0 W h HZ.out)
  cases em : mayG x0
  · rw [em] at HM1
    clear em hz
    go_enter Try.func7, Try.ntmps7
    go_wp2_with fail
    refine HLT.out.mono ?_
    rintro e w2 ⟨rfl, hb2⟩
    have HB2 := Lib.hid (HB1.out.trans (hb2.mono HB1.out.size))
    have HG2 := Lib.hid (HG1.out.later hb2)
    obtain ⟨d0, d1, d2⟩ := HG2.out.cells
    clear hb2 k0 k1 k2
    go_wp2_with fail
    refine (HM1.out _ HG2.out.g).mono ?_
    rintro e w3 ⟨rfl, hb3⟩
    have HB3 := Lib.hid (HB2.out.trans (hb3.mono HB2.out.size))
    clear hb3
    go_wp2_with fail
    refine (Aw.awake_any _).mono ?_
    rintro e w4 ⟨rfl, hb4⟩
    have HB4 := Lib.hid (HB3.out.trans (hb4.mono HB3.out.size))
    go_wp2
    go_ret
    exact ⟨rfl, HB4.out⟩
  rw [em] at HM1
  by_cases hn0 : nN = 0
  · have HN0 := Lib.hid hn0
    subst hn0
    clear em hz
    go_enter Try.func7, Try.ntmps7
    go_wp2_with fail
    refine HLT.out.mono ?_
    rintro e w2 ⟨rfl, hb2⟩
    have HB2 := Lib.hid (HB1.out.trans (hb2.mono HB1.out.size))
    have HG2 := Lib.hid (HG1.out.later hb2)
    obtain ⟨d0, d1, d2⟩ := HG2.out.cells
    clear hb2 k0 k1 k2
    go_wp2_with fail
    refine (HM1.out _ HG2.out.g).mono ?_
    rintro e w3 ⟨rfl, hb3⟩
    have HB3 := Lib.hid (HB2.out.trans (hb3.mono HB2.out.size))
    have HG3 := Lib.hid (HG2.out.later hb3)
    obtain ⟨e0', e1, e2⟩ := HG3.out.cells
    clear hb3 d0 d1 d2
    go_wp2_with fail
    refine (Aw.awake_any _).mono ?_
    rintro e w4 ⟨rfl, hb4⟩
    have HB4 := Lib.hid (HB3.out.trans (hb4.mono HB3.out.size))
    go_wp2
    go_ret
    exact ⟨rfl, HB4.out⟩
  obtain ⟨d, hd, hmod⟩ := modn a1 nN (by omega) (by omega)
  have e0 : ((nN : Int) == 0) = false := by rw [beq_eq_false_iff_ne]; omega
  have hnz : ¬ ((nN : Int) = 0) := by omega
  have hu : IntKind.u64.wrap (nN : Int) = (nN : Int) := by rw [IntKind.wrap_u64]; omega
  have hmt := may_turn em (by rw [HNL.out]; exact hd : d < x0.ns.length)
  have htt := turn_trim em (by rw [HNL.out]; exact hd : d < x0.ns.length)
  have HTU : Hid (∀ W, GAt W (.agg #[.slice AN nN cN, .slice AR nR cR, .slice AW nW cW]) x0 → Calls Try.prog 17 #[.agg #[.slice AN nN cN, .slice AR nR cR, .slice AW nW cW], .int .i64 (d : Int)] W (fun e w' => ∃ BN dN BR dR BW dW, e = .returned (.agg #[.slice BN nN dN, .slice BR nR dR, .slice BW nW dW]) ∧ GAt w' (.agg #[.slice BN nN dN, .slice BR nR dR, .slice BW nW dW]) (turnG x0 d) ∧ Below W.heap.size W w')) := Lib.hid (fun W h => by
    refine (Tw.turned_any _ x0 d W h HZ.out em (by rw [HNL.out]; exact hd)).mono ?_
    rintro e w' ⟨v', rfl, hg, hb⟩
    obtain ⟨BN, dN, BR, dR, BW, dW, rfl, _⟩ := Al.ga_of hg
    have l1 : (turnG x0 d).ns.length = nN := by rw [turn_len, HNL.out]
    have l2 : (turnG x0 d).rs.length = nR := by unfold turnG; simp [HRL.out]
    have l3 : (turnG x0 d).ws.length = nW := by unfold turnG; simp [HWL.out]
    rw [l1, l2, l3] at hg ⊢
    exact ⟨BN, dN, BR, dR, BW, dW, rfl, hg, hb⟩)
  obtain ⟨t, ht⟩ : ∃ t, trimL x0 = t := ⟨_, rfl⟩
  obtain ⟨m, hm⟩ : ∃ m, t.ns.length = m := ⟨_, rfl⟩
  have htm : mayG t = true := by rw [← ht, trim_of em]; exact Pt.trim_may em rfl
  have hts : Sz t := by rw [← ht, trim_of em]; exact Pt.trim_sz hz rfl
  have htr : t.rs.length = nR := by rw [← ht, trim_of em]; show (movedL _ x0.rs).length = nR; unfold movedL; rw [List.length_map]; exact HRL.out
  have htw : t.ws.length = nW := by rw [← ht, trim_of em]; show (movedL _ x0.ws).length = nW; unfold movedL; rw [List.length_map]; exact HWL.out
  have htrim : trimL t = t := by rw [← ht]; exact Sm.trim_trim em
  have hzt : Sz (turnG x0 d) := sz_turn hz
  have hkd : ∀ x ∈ t.ns, ∀ v ∈ x.fs, Sv.kd03 v := by rw [← ht, trim_of em]; exact trim_kd
  have hml : m ≤ 4096 := by rw [← hm]; exact Re.may_len htm
  have tpost : ∀ {e : Ending} {W w' : World}, Tr.TrimPost t W e w' ∨ Tr.TrimPost x0 W e w' → ∃ TN tN TR tR TW tW, e = .returned (.agg #[.slice TN m tN, .slice TR nR tR, .slice TW nW tW]) ∧ GAt w' (.agg #[.slice TN m tN, .slice TR nR tR, .slice TW nW tW]) t ∧ Below W.heap.size W w' := by
    intro e W w' h
    have h' : ∃ v, e = .returned v ∧ GAt w' v t ∧ Below W.heap.size W w' := by
      rcases h with ⟨v, a, b, c⟩ | ⟨v, a, b, c⟩
      · rw [htrim] at b; exact ⟨v, a, b, c⟩
      · rw [ht] at b; exact ⟨v, a, b, c⟩
    obtain ⟨v, rfl, hg, hb⟩ := h'
    obtain ⟨TN, tN, TR, tR, TW, tW, rfl, _⟩ := Al.ga_of hg
    rw [hm, htr, htw] at hg ⊢
    exact ⟨TN, tN, TR, tR, TW, tW, rfl, hg, hb⟩
  have HTT : Hid (∀ W, GAt W (.agg #[.slice AN nN cN, .slice AR nR cR, .slice AW nW cW]) x0 → Calls Try.prog 16 #[.agg #[.slice AN nN cN, .slice AR nR cR, .slice AW nW cW]] W (fun e w' => ∃ TN tN TR tR TW tW, e = .returned (.agg #[.slice TN m tN, .slice TR nR tR, .slice TW nW tW]) ∧ GAt w' (.agg #[.slice TN m tN, .slice TR nR tR, .slice TW nW tW]) t ∧ Below W.heap.size W w')) := Lib.hid (fun W h => (Tm.trim_any _ x0 W h HZ.out).mono fun e w' h => tpost (.inr h))
  have HTT2 : Hid (∀ W TN tN TR tR TW tW, GAt W (.agg #[.slice TN m tN, .slice TR nR tR, .slice TW nW tW]) t → Calls Try.prog 16 #[.agg #[.slice TN m tN, .slice TR nR tR, .slice TW nW tW]] W (fun e w' => ∃ TN tN TR tR TW tW, e = .returned (.agg #[.slice TN m tN, .slice TR nR tR, .slice TW nW tW]) ∧ GAt w' (.agg #[.slice TN m tN, .slice TR nR tR, .slice TW nW tW]) t ∧ Below W.heap.size W w')) := Lib.hid (fun W TN tN TR tR TW tW h => (Tm.trim_any _ t W h hts).mono fun e w' h => tpost (.inl h))
  have HA1 : Hid (∀ W AN cN AR cR AW cW v, GAt W (.agg #[.slice AN nN cN, .slice AR nR cR, .slice AW nW cW]) x0 → GAt W v (turnG x0 d) → Calls Try.prog 18 #[.agg #[.slice AN nN cN, .slice AR nR cR, .slice AW nW cW], v] W (BoolPost true W)) := Lib.hid (fun W AN cN AR cR AW cW v h1 h2 => by rw [← alike_of em hmt htt.symm]; exact Al.alike_any _ _ _ _ W h1 h2 HZ.out hzt)
  have HA2 : Hid (∀ W AN cN AR cR AW cW v, GAt W (.agg #[.slice AN nN cN, .slice AR nR cR, .slice AW nW cW]) x0 → GAt W v t → Calls Try.prog 18 #[.agg #[.slice AN nN cN, .slice AR nR cR, .slice AW nW cW], v] W (BoolPost true W)) := Lib.hid (fun W AN cN AR cR AW cW v h1 h2 => by rw [← alike_of em htm (by rw [ht, htrim])]; exact Al.alike_any _ _ _ _ W h1 h2 HZ.out hts)
  have HA3 : Hid (∀ W u v, GAt W u (turnG x0 d) → GAt W v t → Calls Try.prog 18 #[u, v] W (BoolPost true W)) := Lib.hid (fun W u v h1 h2 => by rw [← alike_of hmt htm (by rw [htt, ht, htrim])]; exact Al.alike_any _ _ _ _ W h1 h2 hzt hts)
  have HSM : Hid (∀ W u v, GAt W u t → GAt W v t → Calls Try.prog 19 #[u, v] W (BoolPost true W)) := Lib.hid (fun W u v h1 h2 => Sv.same_graph u v t W h1 h2 (by rw [hm]; exact hml) hts hkd)
  have HTE := Lib.hid ht
  have HTM := Lib.hid hm
  have HTS := Lib.hid hts
  have HMT := Lib.hid htm
  have HTRM := Lib.hid htrim
  clear hmt htt htm hts htr htw htrim hzt hkd tpost ht hm
  have HEM := Lib.hid em
  clear em hz
  go_enter Try.func7, Try.ntmps7
  go_wp2_with fail
  refine HLT.out.mono ?_
  rintro e w2 ⟨rfl, hb2⟩
  have HB2 := Lib.hid (HB1.out.trans (hb2.mono HB1.out.size))
  have HG2 := Lib.hid (HG1.out.later hb2)
  have HJ2 := Lib.hid ((hb2.block _ (blt HJ1.out)).trans HJ1.out)
  obtain ⟨d0, d1, d2⟩ := HG2.out.cells
  clear hb2 k0 k1 k2
  go_wp2_with fail
  refine (HM1.out _ HG2.out.g).mono ?_
  rintro e w3 ⟨rfl, hb3⟩
  have HB3 := Lib.hid (HB2.out.trans (hb3.mono HB2.out.size))
  have HG3 := Lib.hid (HG2.out.later hb3)
  have HJ3 := Lib.hid ((hb3.block _ (blt HJ2.out)).trans HJ2.out)
  obtain ⟨e0', e1, e2⟩ := HG3.out.cells
  clear hb3 d0 d1 d2
  go_wp2_with fail
  refine (HTU.out _ HG3.out.g).mono ?_
  rintro e w4 ⟨BN, dN, BR, dR, BW, dW, rfl, hgh, hb4⟩
  have HB4 := Lib.hid (HB3.out.trans (hb4.mono HB3.out.size))
  have hba := (Below.refl w4.heap.size w4).alloc (Nat.le_refl _) (.cells #[.slice BN nN dN, .slice BR nR dR, .slice BW nW dW] 25)
  obtain ⟨w5, hw5⟩ : ∃ w5, w4.alloc (.cells #[.slice BN nN dN, .slice BR nR dR, .slice BW nW dW] 25) = w5 := ⟨_, rfl⟩
  rw [hw5] at hba
  have HB5 := Lib.hid (HB4.out.trans (hba.mono HB4.out.size))
  have HG5 := Lib.hid ((HG3.out.later hb4).later hba)
  have HJ5 := Lib.hid ((hba.block _ (by have := blt HJ3.out; have := hb4.size; omega)).trans ((hb4.block _ (blt HJ3.out)).trans HJ3.out))
  have HH5 : Hid (GB w5 w4.heap.size (.slice BN nN dN) (.slice BR nR dR) (.slice BW nW dW) (turnG x0 d)) := Lib.hid ⟨by rw [← hw5]; exact heap_alloc_new w4 _, hgh.below hba⟩
  obtain ⟨f0, f1, f2⟩ := HG5.out.cells
  clear hgh hb4 hba e0' e1 e2
  go_wp2_with fail
  refine (HTT.out _ HG5.out.g).mono ?_
  rintro e w6 ⟨TN, tN, TR, tR, TW, tW, rfl, hgt, hb6⟩
  have HB6 := Lib.hid (HB5.out.trans (hb6.mono HB5.out.size))
  have hbb := (Below.refl w6.heap.size w6).alloc (Nat.le_refl _) (.cells #[.slice TN m tN, .slice TR nR tR, .slice TW nW tW] 25)
  obtain ⟨w7, hw7⟩ : ∃ w7, w6.alloc (.cells #[.slice TN m tN, .slice TR nR tR, .slice TW nW tW] 25) = w7 := ⟨_, rfl⟩
  rw [hw7] at hbb
  have HB7 := Lib.hid (HB6.out.trans (hbb.mono HB6.out.size))
  have HG7 := Lib.hid ((HG5.out.later hb6).later hbb)
  have HJ7 := Lib.hid ((hbb.block _ (by have := blt HJ5.out; have := hb6.size; omega)).trans ((hb6.block _ (blt HJ5.out)).trans HJ5.out))
  have HH7 := Lib.hid ((HH5.out.later hb6).later hbb)
  have HT7 : Hid (GB w7 w6.heap.size (.slice TN m tN) (.slice TR nR tR) (.slice TW nW tW) t) := Lib.hid ⟨by rw [← hw7]; exact heap_alloc_new w6 _, hgt.below hbb⟩
  have hdd := (Below.refl w7.heap.size w7).drew
  have HGd := Lib.hid (HG7.out.later hdd)
  have HHd := Lib.hid (HH7.out.later hdd)
  have HTd := Lib.hid (HT7.out.later hdd)
  have HBd := Lib.hid (HB7.out.trans (hdd.mono HB7.out.size))
  have HJd := Lib.hid ((hdd.block _ (blt HJ7.out)).trans HJ7.out)
  obtain ⟨g0, g1, g2⟩ := HGd.out.cells
  obtain ⟨h0, h1, h2⟩ := HHd.out.cells
  obtain ⟨t0, t1, t2⟩ := HTd.out.cells
  clear hgt hb6 hbb hdd f0 f1 f2
  go_wp2
  go_region_held3 (fun w' => w'.cell? ⟨w.heap.size, 0, none⟩ = some (.slice AN nN cN) ∧ w'.cell? ⟨w.heap.size, 1, none⟩ = some (.slice AR nR cR) ∧ w'.cell? ⟨w.heap.size, 2, none⟩ = some (.slice AW nW cW) ∧ w'.cell? ⟨w4.heap.size, 0, none⟩ = some (.slice BN nN dN) ∧ w'.cell? ⟨w4.heap.size, 1, none⟩ = some (.slice BR nR dR) ∧ w'.cell? ⟨w4.heap.size, 2, none⟩ = some (.slice BW nW dW) ∧ w'.cell? ⟨w6.heap.size, 0, none⟩ = some (.slice TN m tN) ∧ w'.cell? ⟨w6.heap.size, 1, none⟩ = some (.slice TR nR tR) ∧ w'.cell? ⟨w6.heap.size, 2, none⟩ = some (.slice TW nW tW))
    (first | (refine ⟨?_, ?_, ?_, ?_, ?_, ?_, ?_, ?_, ?_⟩ <;> assumption) | go_keep)
    (first
      | (go_at_call 18; (with_reducible show Calls _ _ _ w7.drew _); go_must (refine (HA1.out _ _ _ _ _ _ _ _ HGd.out.g HHd.out.g).mono ?_; rintro e w8 ⟨rfl, hb8⟩; have HJ8 := Lib.hid ((hb8.block _ (blt HJd.out)).trans HJd.out); have HB8 := Lib.hid (HBd.out.trans (hb8.mono HBd.out.size)); have HG8 := Lib.hid (HGd.out.later hb8); have HH8 := Lib.hid (HHd.out.later hb8); have HT8 := Lib.hid (HTd.out.later hb8); obtain ⟨g0, g1, g2⟩ := HG8.out.cells; obtain ⟨h0, h1, h2⟩ := HH8.out.cells; obtain ⟨t0, t1, t2⟩ := HT8.out.cells))
      | (go_at_call 18; (with_reducible show Calls _ _ _ w8 _); go_must (refine (HA2.out _ _ _ _ _ _ _ _ HG8.out.g HT8.out.g).mono ?_; rintro e w9 ⟨rfl, hb9⟩; have HJ9 := Lib.hid ((hb9.block _ (blt HJ8.out)).trans HJ8.out); have HB9 := Lib.hid (HB8.out.trans (hb9.mono HB8.out.size)); have HG9 := Lib.hid (HG8.out.later hb9); have HH9 := Lib.hid (HH8.out.later hb9); have HT9 := Lib.hid (HT8.out.later hb9); obtain ⟨g0, g1, g2⟩ := HG9.out.cells; obtain ⟨h0, h1, h2⟩ := HH9.out.cells; obtain ⟨t0, t1, t2⟩ := HT9.out.cells))
      | (go_at_call 16; go_must (refine (HTT2.out _ _ _ _ _ _ _ HT9.out.g).mono ?_; rintro e w10 ⟨UN, uN, UR, uR, UW, uW, rfl, hgu, hb10⟩; have HU10 := Lib.hid hgu; have HJ10 := Lib.hid ((hb10.block _ (blt HJ9.out)).trans HJ9.out); have HB10 := Lib.hid (HB9.out.trans (hb10.mono HB9.out.size)); have HG10 := Lib.hid (HG9.out.later hb10); have HH10 := Lib.hid (HH9.out.later hb10); have HT10 := Lib.hid (HT9.out.later hb10); obtain ⟨g0, g1, g2⟩ := HG10.out.cells; obtain ⟨h0, h1, h2⟩ := HH10.out.cells; obtain ⟨t0, t1, t2⟩ := HT10.out.cells))
      | (go_at_call 19; go_must (refine (HSM.out _ _ _ HU10.out HT10.out.g).mono ?_; rintro e w11 ⟨rfl, hb11⟩; have HJ11 := Lib.hid ((hb11.block _ (blt HJ10.out)).trans HJ10.out); have HB11 := Lib.hid (HB10.out.trans (hb11.mono HB10.out.size)); have HG11 := Lib.hid (HG10.out.later hb11); have HH11 := Lib.hid (HH10.out.later hb11); have HT11 := Lib.hid (HT10.out.later hb11); obtain ⟨g0, g1, g2⟩ := HG11.out.cells; obtain ⟨h0, h1, h2⟩ := HH11.out.cells; obtain ⟨t0, t1, t2⟩ := HT11.out.cells))
      | (go_at_call 18; (with_reducible show Calls _ _ _ w11 _); go_must (refine (HA3.out _ _ _ HH11.out.g HT11.out.g).mono ?_; rintro e w12 ⟨rfl, hb12⟩; have HJ12 := Lib.hid ((hb12.block _ (blt HJ11.out)).trans HJ11.out); have HB12 := Lib.hid (HB11.out.trans (hb12.mono HB11.out.size)); have HG12 := Lib.hid (HG11.out.later hb12); have HT12 := Lib.hid (HT11.out.later hb12); have HH12 := Lib.hid (HH11.out.later hb12); obtain ⟨g0, g1, g2⟩ := HG12.out.cells; obtain ⟨h0, h1, h2⟩ := HH12.out.cells; obtain ⟨t0, t1, t2⟩ := HT12.out.cells))
      | fail)
  obtain ⟨rl, hrC, hrO⟩ := raw_of (Al.ga_at HG.out).n (by rw [HNL.out]; omega)
  rw [HNL.out] at hrC
  have hrl : rl.length = nN := by rw [hrO.1, HNL.out]
  have HRO := Lib.hid hrO
  have HRC := Lib.hid hrC
  have HRL0 := HRL
  have HRL := Lib.hid hrl
  clear hrC hrO g0 g1 g2 h0 h1 h2 t0 t1 t2 hb8 hb9 hb10 hb11 hb12 hgu
  obtain ⟨jj0, jj1⟩ := two_cells HJ12.out
  have HRC12 : Hid (Kd.C kR w12 AN rl.length rl) := Lib.hid (by rw [HRL.out]; exact Kd.C_below HRC.out HB12.out)
  have HPOS : Hid (0 < ([] ++ rl).length) := Lib.hid (by show 0 < rl.length; omega)
  clear hrl
  have HMN : Hid (nN = rl.length) := Lib.hid HRL.out.symm
  have HL4 : Hid (rl.length ≤ 5000) := Lib.hid (by rw [HRL.out]; omega)
  go_upto_if 69 with fail
  go_cut [] from 15 to 138 (fun wc => Below w12.heap.size w12 wc)
  case first =>
    by_cases hj30 : x2.fs.length < 30
    · have HMJ : Hid (∀ v W, GAt W v (junkG x0 x2) → Calls Try.prog 11 #[v] W (BoolPost (mayG (junkG x0 x2)) W)) := Lib.hid (fun v W h => may_any _ _ W h (sz_junk HZ.out hj30))
      have HALJ : Hid (mayG (junkG x0 x2) = true → ∀ u v W, GAt W u x0 → GAt W v (junkG x0 x2) → Calls Try.prog 18 #[u, v] W (BoolPost true W)) := Lib.hid (fun hj u v W h1 h2 => by
        rw [← alike_of HEM.out hj (junk_trim HEM.out hj).symm]; exact Al.alike_any _ _ _ _ W h1 h2 HZ.out (sz_junk HZ.out hj30))
      have JUNK : Hid (∀ A c W, Below w12.heap.size w12 W → kR.R 34 W w12.heap.size (fun _ => True) (.slice A (([] ++ rl) ++ [(x2.kd, (AJ, x2.fs.length, cJ))]).length c) (([] ++ rl) ++ [(x2.kd, (AJ, x2.fs.length, cJ))]) → GAt W (.agg #[.slice A (rl.length + 1) c, .slice AR nR cR, .slice AW nW cW]) (junkG x0 x2)) := Lib.hid (fun A c W hW hR => by
        have hb := HB12.out.trans (hW.mono HB12.out.size)
        have hg := HG.out
        rw [← HNL.out, ← HRL0.out, ← HWL.out] at hg
        have hro := (HRO.out.old hb.block).snoc (r := (x2.kd, (AJ, x2.fs.length, cJ))) (x := x2) ⟨rfl, rfl, hcJ, HJ.out.old hb.block⟩
        have := rows_gat (j := junkG x0 x2) hg hro hb hR rfl rfl
        rw [HRL0.out, HWL.out] at this
        have e : rl.length + 1 = (([] ++ rl) ++ [((x2.kd, (AJ, x2.fs.length, cJ)) : Raw)]).length := by simp
        rw [e]
        exact this)
      obtain ⟨g0, g1, g2⟩ := HG12.out.cells
      have HR12 : Hid (Below w12.heap.size w12 w12) := Lib.hid (Below.refl _ _)
      have hs12 : w.heap.size + 1 < w12.heap.size := blt HJ12.out
      go_wp2
      go_region_held3 (fun w' => w'.cell? ⟨w.heap.size, 0, none⟩ = some (.slice AN nN cN) ∧ w'.cell? ⟨w.heap.size, 1, none⟩ = some (.slice AR nR cR) ∧ w'.cell? ⟨w.heap.size, 2, none⟩ = some (.slice AW nW cW) ∧ w'.cell? ⟨w.heap.size + 1, 0, none⟩ = some (.int .i64 x2.kd) ∧ w'.cell? ⟨w.heap.size + 1, 1, none⟩ = some (.slice AJ x2.fs.length cJ))
        (first | ((try dsimp only);  refine ⟨?_, ?_, ?_, ?_, ?_⟩ <;> (repeat (first | (with_reducible assumption) | (with_reducible apply cell_drew) | (with_reducible apply cell_alloc) | (with_reducible refine cell_far3 ?_ (by omega))))) | fail)
        (first
          | ((with_reducible show ite _ _ _);  have hR20b := hR20; refine rows_app (w0 := w12) (by rfl) (.tmp 72) (.tmp 74) (by rfl) (.slice A9 ([] ++ rl).length c9) ([] ++ rl) [(x2.kd, (AJ, x2.fs.length, cJ))] (some ⟨_, 0, none⟩) 1 1 (by rfl) (by rfl) rfl (Kd.R_below hR20 (by (repeat (first | exact Below.refl _ _ | apply Below.drew | apply later_alloc)))) (raw_one (by first | exact heap_alloc_new _ _ | exact heap_at1 _ _ _ _ | exact heap_alloc_lt _ (heap_alloc_new _ _) | exact HK20.out _ _ (heap_alloc_new _ _) | exact HK20.out _ _ (heap_at1 _ _ _ _) | exact HK20.out _ _ (heap_alloc_lt _ (heap_alloc_new _ _)) | exact heap_alloc_lt _ (HK20.out _ _ (heap_alloc_new _ _)))) (by (repeat (first | exact hb20 | apply Below.drew | apply later_alloc))) (by have := HL4.out; simp only [List.nil_append, List.length_cons, List.length_nil]; omega) ?_; intro A10 c10 w21 hR21 hb21 hg21 hat21; have HG21 := Lib.hid (HG12.out.later hb21); have HJ21 := Lib.hid ((hb21.block _ (blt HJ12.out)).trans HJ12.out); obtain ⟨g0, g1, g2⟩ := HG21.out.cells; obtain ⟨jj0, jj1⟩ := two_cells HJ21.out; have HK21 := Lib.hid (keep_row (show 0 < ([] ++ rl).length from HPOS.out) (Kd.R_below hR20 (by (repeat (first | exact Below.refl _ _ | apply Below.drew | apply later_alloc)))) hg21); (first | (have HJB := Lib.hid (HK21.out _ _ (heap_alloc_lt _ (heap_alloc_new _ _))); obtain ⟨y0, y1, y2, y3, y4, y5⟩ := three_cells HJB.out) | (have HJB := Lib.hid (HK21.out _ _ (heap_at1 _ _ _ _)); obtain ⟨y0, y1, y2, y3, y4, y5⟩ := three_cells HJB.out) | (have HJB := Lib.hid (HK21.out _ _ (heap_alloc_new _ _)); obtain ⟨y0, y1, y2, y3, y4, y5⟩ := three_cells HJB.out) | (have HJB := Lib.hid (HK21.out _ _ (HK20.out _ _ (heap_at1 _ _ _ _))); obtain ⟨y0, y1, y2, y3, y4, y5⟩ := three_cells HJB.out) | (have HJB := Lib.hid (HK21.out _ _ (HK20.out _ _ (heap_alloc_new _ _))); obtain ⟨y0, y1, y2, y3, y4, y5⟩ := three_cells HJB.out) | (have HJB := Lib.hid (HK21.out _ _ (heap_alloc_lt _ (HK20.out _ _ (heap_alloc_new _ _)))); obtain ⟨y0, y1, y2, y3, y4, y5⟩ := three_cells HJB.out) | (have HJB := Lib.hid (HK21.out _ _ (HK20.out _ _ (heap_alloc_lt _ (heap_alloc_new _ _)))); obtain ⟨y0, y1, y2, y3, y4, y5⟩ := three_cells HJB.out) | skip); have HR21 := Lib.hid hR21; have HBB21 := Lib.hid hb21; clear hR21 hb21 hg21 hat21 hR20b; clear hR20; clear hat20; clear hg20; clear hb20)
          | ((with_reducible show ite _ _ _); refine rows_app (w0 := w12) (by rfl) (.const (.slice none 0 0)) (.tmp 71) (by rfl) (.slice none 0 0) [] rl AN nN cN (by rfl) (by rfl) HMN.out (Kd.R_nil _ _ _ _ _) (Kd.C_below HRC12.out (by (repeat (first | exact HR12.out | apply Below.drew | apply later_alloc)))) (by (repeat (first | exact HR12.out | apply Below.drew | apply later_alloc))) (by have := HL4.out; simp only [List.length_nil]; omega) ?_; intro A9 c9 w20 hR20 hb20 hg20 hat20; have HK20 := Lib.hid (keep_nil rfl hg20); have hs20 := hb20.size; have HG20 := Lib.hid (HG12.out.later hb20); have HJ20 := Lib.hid ((hb20.block _ (blt HJ12.out)).trans HJ12.out); obtain ⟨g0, g1, g2⟩ := HG20.out.cells; obtain ⟨jj0, jj1⟩ := two_cells HJ20.out)
          | fail)
      all_goals clear g0 g1 g2 jj0 jj1
      all_goals
        first
        | (obtain ⟨wF, hwF, hF, hrF, hbF⟩ := box_set HJB.out HR21.out HBB21.out (by omega) HBB21.out.size (.slice A10 (rl.length + 1) c10) (.slice AR nR cR) (.slice AW nW cW); rw [hwF]; clear hwF y0 y1 y2 y3 y4 y5; have HF := Lib.hid hF; have HRF := Lib.hid hrF; have HBF := Lib.hid hbF; clear hF hrF hbF)
        | (obtain ⟨wF, hwF, hF, hrF, hbF⟩ := box_new HR21.out HBB21.out HBB21.out.size (.slice A10 (rl.length + 1) c10) (.slice AR nR cR) (.slice AW nW cW); rw [hwF]; clear hwF; have HF := Lib.hid hF; have HRF := Lib.hid hrF; have HBF := Lib.hid hbF; clear hF hrF hbF)
      all_goals
        have HGJ := Lib.hid (JUNK.out _ _ _ HBF.out HRF.out)
        have HGF := Lib.hid (HG12.out.later HBF.out)
        obtain ⟨k0, k1, k2⟩ := Bx3_one HF.out
        obtain ⟨g0, g1, g2⟩ := HGF.out.cells
        go_wp2_with fail
        refine (HMJ.out _ _ HGJ.out).mono ?_
        rintro e wG ⟨rfl, hbG⟩
        have HBG := Lib.hid (HBF.out.trans (hbG.mono HBF.out.size))
        have HGG := Lib.hid (HGF.out.later hbG)
        have HJG := Lib.hid (HGJ.out.below hbG)
        have HXG := Lib.hid ((hbG.block _ (blt HF.out)).trans HF.out)
        clear k0 k1 k2 g0 g1 g2 hbG
        obtain ⟨k0, k1, k2⟩ := Bx3_one HXG.out
        obtain ⟨g0, g1, g2⟩ := HGG.out.cells
        cases ej : mayG (junkG x0 x2)
        · go_wp2_with fail
          go_meet
          exact HBG.out
        · have HAJ := Lib.hid (HALJ.out ej)
          clear ej
          go_wp2_with fail
          refine (HAJ.out _ _ _ HGG.out.g HJG.out).mono ?_
          rintro e wH ⟨rfl, hbH⟩
          have HBH := Lib.hid (HBG.out.trans (hbH.mono HBG.out.size))
          clear hbH k0 k1 k2 g0 g1 g2
          go_wp2_with fail
          go_meet
          exact HBH.out
    · go_wp2_with fail
      go_meet
      exact Below.refl _ _
  case rest =>
  obtain ⟨wb, rfl⟩ : ∃ wb : World, wb = wc := ⟨_, rfl⟩
  have HBc := Lib.hid hcut
  have HGc := Lib.hid (HG12.out.later hcut)
  have HTc := Lib.hid (HT12.out.later hcut)
  clear hcut jj0 jj1
  obtain ⟨t0, t1, t2⟩ := HTc.out.cells
  by_cases hm0 : m = 0
  · have HM0 := Lib.hid hm0
    subst hm0
    go_wp2_with fail
    refine (Aw.awake_any _).mono ?_
    rintro e wD ⟨rfl, hbD⟩
    have HBD := Lib.hid (HBc.out.trans (hbD.mono HBc.out.size))
    go_wp2
    go_ret
    exact ⟨rfl, (HB12.out.trans (HBD.out.mono HB12.out.size))⟩
  obtain ⟨d2, hd2, hmod2⟩ := modn a3 m (by omega) (by omega)
  have e02 : ((m : Int) == 0) = false := by rw [beq_eq_false_iff_ne]; omega
  have hnz2 : ¬ ((m : Int) = 0) := by omega
  have hu2 : IntKind.u64.wrap (m : Int) = (m : Int) := by rw [IntKind.wrap_u64]; omega
  obtain ⟨rt, hrtC, hrtO⟩ := raw_of (Al.ga_at HTc.out.g).n (by rw [HTM.out]; omega)
  rw [HTM.out] at hrtC
  have hrt : m = rt.length := by rw [hrtO.1, HTM.out]
  have HRT := Lib.hid hrt
  have HRTC : Hid (Kd.C kR wb TN rt.length rt) := Lib.hid (by rw [← hrt]; exact hrtC)
  have HRTO := Lib.hid hrtO
  have HRT5 : Hid (rt.length ≤ 5000) := Lib.hid (by omega)
  have HRcc : Hid (Below wb.heap.size wb wb) := Lib.hid (Below.refl _ _)
  clear hrt hrtC hrtO
  have hs6 : w6.heap.size < wb.heap.size := blt HTc.out.x
  go_upto_region 15 with fail
  simp only [hmod2]
  go_cut [14] from 102 to 109 (fun s14 wd => ∃ gU AU cU, s14 = .pointer (some ⟨gU, 0, none⟩) ∧ wd.heap[gU]? = some (.cells #[.slice AU rt.length cU, .slice TR nR tR, .slice TW nW tW] 25 (0, 0)) ∧ kR.R 34 wd wb.heap.size (fun _ => True) (.slice AU rt.length cU) rt ∧ Below wb.heap.size wb wd)
  case first =>
    go_region_held3 (fun w' => w'.cell? ⟨w6.heap.size, 0, none⟩ = some (.slice TN m tN) ∧ w'.cell? ⟨w6.heap.size, 1, none⟩ = some (.slice TR nR tR) ∧ w'.cell? ⟨w6.heap.size, 2, none⟩ = some (.slice TW nW tW))
      (first | ((try dsimp only); refine ⟨?_, ?_, ?_⟩ <;> (repeat (first | (with_reducible assumption) | (with_reducible apply cell_drew) | (with_reducible apply cell_alloc) | (with_reducible refine cell_far3 ?_ (by omega))))) | fail)
      (first
        | ((with_reducible show ite _ _ _); refine rows_app (w0 := wb) (by rfl) (.const (.slice none 0 0)) (.tmp 103) (by rfl) (.slice none 0 0) [] rt TN m tN (by rfl) (by rfl) HRT.out (Kd.R_nil _ _ _ _ _) (Kd.C_below HRTC.out (by (repeat (first | exact HRcc.out | apply Below.drew | apply later_alloc)))) (by (repeat (first | exact HRcc.out | apply Below.drew | apply later_alloc))) (by have := HRT5.out; simp only [List.length_nil]; omega) ?_; intro A9 c9 w20 hR20 hb20 hg20 hat20; have HK20 := Lib.hid (keep_nil rfl hg20); have HG20 := Lib.hid (HTc.out.later hb20); obtain ⟨t0, t1, t2⟩ := HG20.out.cells; (first | (have HJB := Lib.hid (HK20.out _ _ (heap_alloc_new _ _)); obtain ⟨y0, y1, y2, y3, y4, y5⟩ := three_cells HJB.out) | skip); have HR20 := Lib.hid hR20; have HBB20 := Lib.hid hb20; clear hR20 hb20 hg20 hat20)
        | fail)
    all_goals
      first
      | (obtain ⟨wF, hwF, hF, hrF, hbF⟩ := box_set HJB.out HR20.out HBB20.out (by omega) HBB20.out.size (.slice A9 rt.length c9) (.slice TR nR tR) (.slice TW nW tW); rw [hwF]; clear hwF; have HF := Lib.hid hF; have HRF := Lib.hid hrF; have HBF := Lib.hid hbF; clear hF hrF hbF)
      | (obtain ⟨wF, hwF, hF, hrF, hbF⟩ := box_new HR20.out HBB20.out HBB20.out.size (.slice A9 rt.length c9) (.slice TR nR tR) (.slice TW nW tW); rw [hwF]; clear hwF; have HF := Lib.hid hF; have HRF := Lib.hid hrF; have HBF := Lib.hid hbF; clear hF hrF hbF)
    all_goals
      go_wp2_with fail
      go_meet
      exact ⟨_, _, _, rfl, HF.out, HRF.out, HBF.out⟩
  case rest =>
  obtain ⟨gU, AU, cU, rfl, hU, hRU, hBU⟩ := hcut
  have HU := Lib.hid hU
  have HRU := Lib.hid hRU
  have HBU := Lib.hid hBU
  obtain ⟨wd, rfl⟩ : ∃ wd : World, wd = wc := ⟨_, rfl⟩
  have HTd := Lib.hid (HTc.out.later hBU)
  clear hU hRU t0 t1 t2
  have hdt : d2 < rt.length := by have := HRT.out; omega
  obtain ⟨M, capM, eM, hM0, _, csM, hM⟩ := Kd.R_form HRU.out (by omega)
  obtain ⟨rfl, rfl⟩ : AU = some ⟨M, 0, none⟩ ∧ cU = capM := by simpa using eM
  have HM := Lib.hid hM
  have hgM : gU ≠ M := fun e => by
    have h1 := HU.out
    rw [e, HM.out] at h1
    injection h1 with h1
    injection h1 with _ h1
    cases h1
  obtain ⟨adT, eT, n0, AF, cF, n1, hcF, hF⟩ := (Al.ga_at HTd.out.g).n d2 (by rw [HTM.out]; exact hd2)
  obtain ⟨⟨kd0, fs0⟩, hnd⟩ : ∃ nd, t.ns.getD d2 zN = nd := ⟨_, rfl⟩
  have hf30 : (t.ns.getD d2 zN).fs.length ≤ 30 := by rw [← HTE.out, trim_of HEM.out]; exact trim_fs HNF.out d2
  have HSZ := Lib.hid (sz_more (a := d2) (n := a4) HTS.out hf30)
  rw [hnd] at n0 n1 hcF hF hf30
  have HND := Lib.hid hnd
  dsimp only at n0 n1 hcF hF hf30
  have HFC := Lib.hid (c_of_fv hF (by omega))
  have HMORE := Lib.hid (show alikeB t (moreG t d2 a4) = false by rw [← HTE.out]; exact more_ne HEM.out (by rw [HTE.out, HTM.out]; exact hd2))
  subst eT
  have HALM : Hid (∀ u v W, GAt W u t → GAt W v (moreG t d2 a4) → Calls Try.prog 18 #[u, v] W (BoolPost false W)) := Lib.hid (fun u v W h1 h2 => by rw [← HMORE.out]; exact Al.alike_any _ _ _ _ W h1 h2 HTS.out HSZ.out)
  have ltT : (adT.add (d2 * 2)).block < wb.heap.size := by
    obtain ⟨ad', eT', m0, _⟩ := (Al.ga_at HTc.out.g).n d2 (by rw [HTM.out]; exact hd2)
    injection eT' with eT'
    subst eT'
    exact cell_lt m0
  obtain ⟨t0, t1, t2⟩ := HTd.out.cells
  obtain ⟨u0, u1, u2⟩ := Bx3_one HU.out
  have HRdd : Hid (Below wd.heap.size wd wd) := Lib.hid (Below.refl _ _)
  have HF30 : Hid (fs0.length ≤ 30) := Lib.hid hf30
  have HCF := Lib.hid hcF
  have i0 : (0 : Int) ≤ (d2 : Int) := by omega
  have i1 : (d2 : Int) < (m : Int) := by omega
  have i2 : (d2 : Int) < (rt.length : Int) := by omega
  clear hnd hF hM hf30 hcF hBU eM
  go_upto_region 16 with fail
  go_region_held3 (fun w' => w'.cell? ⟨w6.heap.size, 0, none⟩ = some (.slice (some adT) m tN) ∧ w'.cell? ⟨gU, 0, none⟩ = some (.slice (some ⟨M, 0, none⟩) rt.length cU) ∧ w'.cell? (adT.add (d2 * 2)) = some (.int .i64 kd0) ∧ w'.cell? ⟨(adT.add (d2 * 2)).block, (adT.add (d2 * 2)).off + 1, none⟩ = some (.slice AF fs0.length cF))
    (first | ((try dsimp only); refine ⟨?_, ?_, ?_, ?_⟩ <;> (repeat (first | (with_reducible assumption) | (with_reducible apply cell_drew) | (with_reducible apply cell_alloc) | (with_reducible refine cell_far2 ?_ (by (try dsimp only); omega))))) | fail)
    (first
      | ((with_reducible show ite _ _ _); have hR20b := hR20; refine rows_app5 (w0 := wd) (by rfl) (.tmp 125) (.tmp 128) (by rfl) (.slice A5 ([] ++ fs0).length c5) ([] ++ fs0) [⟨1, a4, 0, 0, 0⟩] (some ⟨_, 0, none⟩) 1 1 (by rfl) (by rfl) rfl (Kd.R_below hR20 (by (repeat (first | exact Below.refl _ _ | apply Below.drew | apply later_alloc)))) (lit5 (by first | exact heap_alloc_new _ _ | exact HK20.out _ _ (heap_alloc_new _ _))) (by (repeat (first | exact hb20 | apply Below.drew | apply later_alloc))) (by have := HF30.out; simp only [List.nil_append, List.length_cons, List.length_nil]; omega) ?_; intro A6 c6 w21 hR21 hb21 hg21; have HT21 := Lib.hid (HTd.out.later hb21); have HU21 := Lib.hid ((hb21.block _ (blt HU.out)).trans HU.out); have HM21 := Lib.hid ((hb21.block _ (blt HM.out)).trans HM.out); have HRU21 := Lib.hid (Kd.R_below HRU.out hb21); have HBU21 := Lib.hid (HBU.out.trans (hb21.mono HBU.out.size)); obtain ⟨t0, t1, t2⟩ := HT21.out.cells; obtain ⟨u0, u1, u2⟩ := Bx3_one HU21.out; have m0 := cell_old n0 hb21.block; have m1 := cell_old n1 hb21.block; obtain ⟨z0, z1, z2, z3, z4, z5⟩ := rr_cells HRU21.out hdt; have HR21 := Lib.hid hR21; have HBB21 := Lib.hid hb21; clear hR21 hb21 hg21 hR20b; clear hR20; clear hg20; clear hb20)
      | ((with_reducible show ite _ _ _); refine rows_app5 (w0 := wd) (by rfl) (.const (.slice none 0 0)) (.tmp 124) (by rfl) (.slice none 0 0) [] fs0 AF fs0.length cF (by rfl) (by rfl) rfl (Kd.R_nil _ _ _ _ _) (Kd.C_below HFC.out (by (repeat (first | exact HRdd.out | apply Below.drew | apply later_alloc)))) (by (repeat (first | exact HRdd.out | apply Below.drew | apply later_alloc))) (by have := HF30.out; simp only [List.length_nil]; omega) ?_; intro A5 c5 w20 hR20 hb20 hg20; have HK20 := Lib.hid (keep_nil rfl hg20); have HT20 := Lib.hid (HTd.out.later hb20); have HU20 := Lib.hid ((hb20.block _ (blt HU.out)).trans HU.out); obtain ⟨t0, t1, t2⟩ := HT20.out.cells; obtain ⟨u0, u1, u2⟩ := Bx3_one HU20.out; have m0 := cell_old n0 hb20.block; have m1 := cell_old n1 hb20.block)
      | fail)
  all_goals
    obtain ⟨wF, hwF, hbF, hgF, hrF, hoF⟩ := node_set (n := a4) HRU21.out hdt HR21.out HM21.out hM0 HBU21.out HRTO.out HND.out
    rw [hwF]
    have HBF := Lib.hid hbF
    have HTF := Lib.hid (HTc.out.later hbF)
    have HUF := Lib.hid ((hgF.block gU (blt HU21.out) (fun e => hgM (by injection e))).trans HU21.out)
    have hgu := rows_gat2 (j := moreG t d2 a4) HTc.out.g hoF hbF hrF rfl rfl
    rw [List.length_set] at hgu
    have HGU := Lib.hid hgu
    clear hwF hbF hgF hrF hoF hgu t0 t1 t2 u0 u1 u2 m0 m1 z2 z3 z4 z5
    obtain ⟨t0, t1, t2⟩ := HTF.out.cells
    obtain ⟨u0, u1, u2⟩ := Bx3_one HUF.out
    go_wp2_with fail
    refine (HALM.out _ _ _ HTF.out.g HGU.out).mono ?_
    rintro e wG ⟨rfl, hbG⟩
    have HBG := Lib.hid (HBF.out.trans (hbG.mono HBF.out.size))
    clear hbG t0 t1 t2 u0 u1 u2
    go_wp2_with fail
    refine (Aw.awake_any _).mono ?_
    rintro e wH ⟨rfl, hbH⟩
    have HBH := Lib.hid (HBG.out.trans (hbH.mono HBG.out.size))
    clear hbH
    go_wp2
    go_ret
    exact ⟨rfl, HB12.out.trans ((HBc.out.trans (HBH.out.mono HBc.out.size)).mono HB12.out.size)⟩

theorem own : ownKnob Try.prog.godebug = none := by kernel_rfl
theorem laidOut : laidOutB Try.prog = true := by kernel_rfl
set_option maxRecDepth 100000 in
theorem lifted (os : Os) (started : os.Started) (H : Type) (enc : TypeId × Value → H) :
    ReturnsInHanded {} Try.checked os 7 .any (Rows.graphAlikeSpec.pre6 enc Try.prog Try.f7 Rows.graphAlikeRow.domain false) (Rows.graphAlikeSpec.post enc Try.prog Try.f7 false true false false) := by
  refine returnsInHanded_of_change (C := Try.checked) own started (by kernel_rfl) Try.func7
    (ChangeSpec.witness6 (enc := enc) (C := Try.checked) false ⟨#[], #[.agg #[.slice none 0 0, .slice none 0 0, .slice none 0 0], .int .i64 0, .agg #[.int .i64 0, .slice none 0 0], .int .i64 0, .int .i64 0], []⟩ 8 (by kernel_rfl) (by kernel_rfl) (by kernel_rfl) (by kernel_rfl)) ?_
  intro W base args ds gs before hval0 hW hcnd _
  have hval : ∀ (j : Nat) t v, Try.f7.params[j]? = some t → args[j]? = some v → Value.okWide Try.prog W .any base t v := hval0
  have hW' := hW
  obtain ⟨p, q, hA0, hV, rfl, hfz, hnd⟩ := hW
  have hA : DataW.TrodAll enc Try.prog W 0 (fun _ => true) true Try.f7.params.toList args.toList ds p := hA0
  rw [Try.params7] at hA hval
  obtain ⟨v0, vs0, d0, ds0, p0, q0, hargs, rfl, rfl, h0, r0⟩ := trodAll_cons hA
  obtain ⟨v1, vs1, d1, ds1, p1, q1, rfl, rfl, rfl, h1, r1⟩ := trodAll_cons r0
  obtain ⟨v2, vs2, d2, ds2, p2, q2, rfl, rfl, rfl, h2, r2⟩ := trodAll_cons r1
  obtain ⟨v3, vs3, d3, ds3, p3, q3, rfl, rfl, rfl, h3, r3⟩ := trodAll_cons r2
  obtain ⟨v4, vs4, d4, ds4, p4, q4, rfl, rfl, rfl, h4, r4⟩ := trodAll_cons r3
  obtain ⟨rfl, rfl, rfl⟩ := trodAll_nil r4
  obtain rfl : args = #[v0, v1, v2, v3, v4] := by cases args; simp_all
  obtain ⟨rfl, rfl⟩ := trodVars_none hV
  have k0 := h0
  have lt0 : ∀ x ∈ p0, x.block < W.heap.size := by obtain ⟨m, hm⟩ := k0; exact DataW.trod_lt m _ _ _ hm
  obtain ⟨fuel0, hf0⟩ := h0
  obtain ⟨x0, hk0, ok0⟩ := (Ba.opens_g3) H enc W 0 _ _ _ _ _ hf0
  have hg0 := Ba.gat_of (hval 0 25 v0 rfl rfl) hk0
  obtain ⟨a1, rfl, rfl, rfl, w1⟩ := open_int Try.underlying3 (hval 1 3 v1 rfl rfl) h1
  have k2 := h2
  have lt2 : ∀ x ∈ p2, x.block < W.heap.size := by obtain ⟨m, hm⟩ := k2; exact DataW.trod_lt m _ _ _ hm
  obtain ⟨fuel2, hf2⟩ := h2
  obtain ⟨x2, hk2, ok2⟩ := (Ba.opens_n2) H enc W 0 _ _ _ _ _ hf2
  have hg2 := Rw.ndv_of (hval 2 34 v2 rfl rfl) hk2
  obtain ⟨a3, rfl, rfl, rfl, w3⟩ := open_int Try.underlying3 (hval 3 3 v3 rfl rfl) h3
  obtain ⟨a4, rfl, rfl, rfl, w4⟩ := open_int Try.underlying2 (hval 4 2 v4 rfl rfl) h4
  clear hA0 hval0
  refine (walk W _ x0 hg0 ok0 a1 w1 _ x2 hg2 ok2 a3 w3 a4 w4).mono fun e W' ⟨he, bel⟩ => ?_
  subst he
  exact ⟨_, rfl, _, _, _, [], _, [], hW', trodAll_mk1 (shut_bool Try.underlying4 _), (trodAll_cons_mk (Below.trod laidOut (by kernel_rfl) (of_decide_eq_true (by kernel_rfl)) k0 bel lt0) (trodAll_cons_mk (shut_int Try.underlying3 w1) (trodAll_cons_mk (Below.trod laidOut (by kernel_rfl) (of_decide_eq_true (by kernel_rfl)) k2 bel lt2) (trodAll_cons_mk (shut_int Try.underlying3 w3) (trodAll_cons_mk (shut_int Try.underlying2 w4) trodAll_mk0))))), rfl, bel.frame _, fun h => by cases h⟩
theorem over : Rows.graphAlikeRow.holds Try.pinned (OpenSpec.ofChange Rows.graphAlikeSpec) :=
  OpenClaim.holds_of_wide 7 Try.f7 rfl rfl rfl rfl rfl rfl rfl ⟨rfl, rfl, rfl, rfl, rfl⟩ rfl rfl rfl rfl rfl (by kernel_rfl) Try.func7 (by kernel_rfl)
    (of_decide_eq_true (by kernel_rfl)) (by unfold Func.isWrapper; first | (rw [if_pos (by decide +kernel)]; kernel_rfl) | (rw [if_neg (by decide +kernel)]; exact ⟨rfl, rfl⟩))
    (fun os started H enc _ => lifted os started H enc)
theorem proved : Rows.GraphAlikeSaid := over
#print axioms proved
end Go.Proofs.Ytdgclpgjoanimaa.graphAlike
