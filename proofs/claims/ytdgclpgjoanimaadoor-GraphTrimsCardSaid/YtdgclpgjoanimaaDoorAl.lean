/- Alike, by its contract. -/
import Derived.Test.YtdgclpgjoanimaaDoorEq
import Derived.Test.YtdgclpgjoanimaaDoorPt
namespace Go.Proofs.YtdgclpgjoanimaaDoor.Al
open Go.RowKit Go.ChangeShapes Go.WideShapes Go.Proofs.YtdgclpgjoanimaaDoorW.PrintWords Go.Proofs.YtdgclpgjoanimaaDoor.Ba Go.Proofs.YtdgclpgjoanimaaDoor.Ma Go.Proofs.YtdgclpgjoanimaaDoor.Mb Go.Proofs.YtdgclpgjoanimaaDoor.Pu Go.Proofs.YtdgclpgjoanimaaDoor.Wa Go.Proofs.YtdgclpgjoanimaaDoor.To Go.Proofs.YtdgclpgjoanimaaDoor.Tr Go.Proofs.YtdgclpgjoanimaaDoor.Eq
set_option linter.unusedVariables false
/-- A graph in a world, parts spelt out. -/
structure GA (w : World) (AN : Option Addr) (nN cN : Nat) (AR : Option Addr) (nR cR : Nat) (AW : Option Addr) (nW cW : Nat) (g : G3) : Prop where
  n : Nv w AN g.ns
  r : Rd w AR g.rs
  s : Rd w AW g.ws
  en : nN = g.ns.length
  er : nR = g.rs.length
  es : nW = g.ws.length
theorem ga_of {w : World} {v : Value} {g : G3} (h : GAt w v g) : ∃ AN cN AR cR AW cW, v = .agg #[.slice AN g.ns.length cN, .slice AR g.rs.length cR, .slice AW g.ws.length cW] ∧ GA w AN g.ns.length cN AR g.rs.length cR AW g.ws.length cW g := by
  obtain ⟨AN, cN, AR, cR, AW, cW, e, _, _, _, a, b, c⟩ := h
  exact ⟨AN, cN, AR, cR, AW, cW, e, a, b, c, rfl, rfl, rfl⟩
theorem ga_at {w : World} {AN : Option Addr} {nN cN : Nat} {AR : Option Addr} {nR cR : Nat} {AW : Option Addr} {nW cW : Nat} {g : G3} (h : GAt w (.agg #[.slice AN nN cN, .slice AR nR cR, .slice AW nW cW]) g) : GA w AN nN cN AR nR cR AW nW cW g := by
  obtain ⟨AN', cN', AR', cR', AW', cW', e, _, _, _, a, b, c⟩ := h
  injection e with e
  injection e with e
  injection e with e1 e
  injection e with e2 e
  injection e with e3 _
  injection e1 with a1 b1 c1
  injection e2 with a2 b2 c2
  injection e3 with a3 b3 c3
  subst a1 b1 a2 b2 a3 b3
  exact ⟨a, b, c, rfl, rfl, rfl⟩
theorem trim_len {g : G3} (hz : Sz g) : (trimL g).ns.length ≤ 4096 ∧ (∀ x ∈ (trimL g).ns, x.fs.length ≤ 100000) ∧ (trimL g).rs.length ≤ 1000 ∧ (trimL g).ws.length ≤ 1000 := by
  unfold trimL
  split
  · rename_i hm
    have hs := Pt.trim_sz hz rfl
    refine ⟨?_, fun x hx => by have := hs.f x hx; omega, hs.r, hs.s⟩
    have h1 := gd_le (gd_walk g g.rs)
    have h2 := Re.may_len hm
    show (List.map _ _).length ≤ 4096
    rw [List.length_map]
    omega
  · exact ⟨by simp, by simp, by simp, by simp⟩
set_option maxHeartbeats 16000000 in
set_option maxRecDepth 100000 in
theorem alike_any (va vb : Value) (a b : G3) (w : World) (ha : GAt w va a) (hb : GAt w vb b) (za : Sz a) (zb : Sz b) : Calls Tryd.prog 11 #[va, vb] w (BoolPost (alikeB a b) w) := by
  have HA := Lib.hid ha
  have HB := Lib.hid hb
  obtain ⟨AN, cN, AR, cR, AW, cW, rfl, _⟩ := ga_of ha
  obtain ⟨BN, dN, BR, dR, BW, dW, rfl, _⟩ := ga_of hb
  obtain ⟨w0, hw0⟩ : ∃ w0, (w.alloc (.cells #[.slice AN a.ns.length cN, .slice AR a.rs.length cR, .slice AW a.ws.length cW] 25)).alloc (.cells #[.slice BN b.ns.length dN, .slice BR b.rs.length dR, .slice BW b.ws.length dW] 25) = w0 := ⟨_, rfl⟩
  have HB0 : Hid (Below w.heap.size w w0) := Lib.hid (by rw [← hw0]; exact ((Below.refl _ _).alloc (Nat.le_refl _) _).alloc (by simp) _)
  have HS0 : Hid (w0.heap.size = w.heap.size + 1 + 1) := Lib.hid (by rw [← hw0, size_al, size_al])
  have HXA : Hid (w0.heap[w.heap.size]? = some (.cells #[.slice AN a.ns.length cN, .slice AR a.rs.length cR, .slice AW a.ws.length cW] 25 (0, 0))) := Lib.hid (by
    rw [← hw0]
    exact (((Below.refl (w.heap.size + 1) _).alloc (by simp) _).block w.heap.size (by omega)).trans (heap_alloc_new w _))
  have HXB : Hid (w0.heap[w.heap.size + 1]? = some (.cells #[.slice BN b.ns.length dN, .slice BR b.rs.length dR, .slice BW b.ws.length dW] 25 (0, 0))) := Lib.hid (by
    rw [← hw0, ← size_al w (.cells #[.slice AN a.ns.length cN, .slice AR a.rs.length cR, .slice AW a.ws.length cW] 25)]; exact heap_alloc_new _ _)
  obtain ⟨x0, x1, x2⟩ := Bx3_one HXA.out
  obtain ⟨y0, y1, y2⟩ := Bx3_one HXB.out
  have HMA := Lib.hid (may_any _ a w0 (HA.out.below HB0.out) za)
  clear ha hb
  cases ea : mayG a
  · have HR : Hid (alikeB a b = false) := Lib.hid (by unfold alikeB; rw [ea]; rfl)
    rw [ea] at HMA
    clear ea
    go_enter Tryd.func11, Tryd.ntmps11
    go_wp2_with fail
    refine HMA.out.mono ?_
    rintro e w1 ⟨rfl, hb1⟩
    have HB1 := Lib.hid (HB0.out.trans (hb1.mono HB0.out.size))
    clear hb1
    go_wp2
    go_ret
    rw [HR.out]
    exact ⟨rfl, HB1.out⟩
  · rw [ea] at HMA
    have HMB : Hid (∀ W, Below w.heap.size w W → Calls Tryd.prog 7 #[.agg #[.slice BN b.ns.length dN, .slice BR b.rs.length dR, .slice BW b.ws.length dW]] W (BoolPost (mayG b) W)) := Lib.hid (fun W hW => may_any _ b W (HB.out.below hW) zb)
    cases eb : mayG b
    · have HR : Hid (alikeB a b = false) := Lib.hid (by unfold alikeB; rw [ea, eb]; rfl)
      rw [eb] at HMB
      clear ea eb
      go_enter Tryd.func11, Tryd.ntmps11
      go_wp2_with fail
      refine HMA.out.mono ?_
      rintro e w1 ⟨rfl, hb1⟩
      have HB1 := Lib.hid (HB0.out.trans (hb1.mono HB0.out.size))
      have hxb := (hb1.block (w.heap.size + 1) (by rw [HS0.out]; omega)).trans HXB.out
      obtain ⟨t0, t1, t2⟩ := Bx3_one hxb
      clear hb1 hxb
      go_wp2_with fail
      refine (HMB.out _ HB1.out).mono ?_
      rintro e w2 ⟨rfl, hb2⟩
      have HB2 := Lib.hid (HB1.out.trans (hb2.mono HB1.out.size))
      clear hb2
      go_wp2
      go_ret
      rw [HR.out]
      exact ⟨rfl, HB2.out⟩
    · have HR : Hid (alikeB a b = (decide ((trimL a).ns = (trimL b).ns) && decide ((trimL a).rs = (trimL b).rs) && decide ((trimL a).ws = (trimL b).ws))) := Lib.hid (by unfold alikeB; rw [ea, eb, ← g3_dec]; rfl)
      rw [eb] at HMB
      have HTA : Hid (∀ W, Below w.heap.size w W → Calls Tryd.prog 9 #[.agg #[.slice AN a.ns.length cN, .slice AR a.rs.length cR, .slice AW a.ws.length cW]] W (Tm.TrimPostF a W)) := Lib.hid (fun W hW => Tm.trim_fresh _ a W (HA.out.below hW) za)
      have HTB : Hid (∀ W, Below w.heap.size w W → Calls Tryd.prog 9 #[.agg #[.slice BN b.ns.length dN, .slice BR b.rs.length dR, .slice BW b.ws.length dW]] W (Tm.TrimPostF b W)) := Lib.hid (fun W hW => Tm.trim_fresh _ b W (HB.out.below hW) zb)
      obtain ⟨la1, la2, la3, la4⟩ := trim_len za
      obtain ⟨lb1, lb2, lb3, lb4⟩ := trim_len zb
      obtain ⟨TA, hTA⟩ : ∃ T, trimL a = T := ⟨_, rfl⟩
      obtain ⟨TB, hTB⟩ : ∃ T, trimL b = T := ⟨_, rfl⟩
      unfold Tm.TrimPostF at HTA HTB
      rw [hTA] at HTA HR la1 la2 la3 la4
      rw [hTB] at HTB HR lb1 lb2 lb3 lb4
      have HLA2 := Lib.hid la2
      have HLB2 := Lib.hid lb2
      clear ea eb hTA hTB la2 lb2
      go_enter Tryd.func11, Tryd.ntmps11
      go_wp2_with fail
      refine HMA.out.mono ?_
      rintro e w1 ⟨rfl, hb1⟩
      have HB1 := Lib.hid (HB0.out.trans (hb1.mono HB0.out.size))
      have hxa1 := (hb1.block w.heap.size (by rw [HS0.out]; omega)).trans HXA.out
      have hxb1 := (hb1.block (w.heap.size + 1) (by rw [HS0.out]; omega)).trans HXB.out
      have hs1 : w.heap.size + 1 + 1 ≤ w1.heap.size := by have := hb1.size; rw [HS0.out] at this; exact this
      obtain ⟨t0, t1, t2⟩ := Bx3_one hxb1
      have HXA1 := Lib.hid hxa1
      have HXB1 := Lib.hid hxb1
      clear hb1 hxa1 hxb1
      go_wp2_with fail
      refine (HMB.out _ HB1.out).mono ?_
      rintro e w2 ⟨rfl, hb2⟩
      have HB2 := Lib.hid (HB1.out.trans (hb2.mono HB1.out.size))
      have hxa2 := (hb2.block w.heap.size (by omega)).trans HXA1.out
      have hxb2 := (hb2.block (w.heap.size + 1) (by omega)).trans HXB1.out
      have hs2 : w.heap.size + 1 + 1 ≤ w2.heap.size := by have := hb2.size; omega
      obtain ⟨s0, s1, s2⟩ := Bx3_one hxa2
      obtain ⟨u0, u1, u2⟩ := Bx3_one hxb2
      have HXA2 := Lib.hid hxa2
      have HXB2 := Lib.hid hxb2
      have HBD : Hid (Below w.heap.size w w2.drew) := Lib.hid HB2.out.drew
      clear hb2 hxa2 hxb2 t0 t1 t2 x0 x1 x2 y0 y1 y2
      go_wp2
      go_region_law (first
        | (go_simp; go_at_call 9; have := hb7; refine (HTB.out _ HBW7.out).mono ?_; rintro e w8 ⟨v8, rfl, hg8, hf8, hb8⟩; obtain ⟨EN, eN, ER, eR, EW, eW, rfl, _⟩ := ga_of hg8; have HF8 := Lib.hid hf8; have HBW8 := Lib.hid (HBW7.out.trans (hb8.mono HBW7.out.size)); have xa8 := (hb8.block w.heap.size (blt HXA7.out)).trans HXA7.out; have xb8 := (hb8.block (w.heap.size + 1) (blt HXB7.out)).trans HXB7.out; obtain ⟨q0, q1, q2⟩ := Bx3_one xa8; obtain ⟨r0, r1, r2⟩ := Bx3_one xb8; have qf0 := blk_frozen xa8 0; have qf1 := blk_frozen xa8 1; have qf2 := blk_frozen xa8 2; have rf0 := blk_frozen xb8 0; have rf1 := blk_frozen xb8 1; have rf2 := blk_frozen xb8 2; have HXA8 := Lib.hid xa8; have HXB8 := Lib.hid xb8)
        | (go_simp; go_at_call 9; refine (HTA.out _ HBD.out).mono ?_; rintro e w7 ⟨v7, rfl, hg7, hf7, hb7⟩; obtain ⟨CN, fN, CR, fR, CW, fW, rfl, _⟩ := ga_of hg7; have HF7 := Lib.hid hf7; have HBW7 := Lib.hid (HBD.out.trans (hb7.mono HBD.out.size)); have xa7 := (hb7.block w.heap.size (blt HXA2.out)).trans HXA2.out; have xb7 := (hb7.block (w.heap.size + 1) (blt HXB2.out)).trans HXB2.out; obtain ⟨q0, q1, q2⟩ := Bx3_one xa7; obtain ⟨r0, r1, r2⟩ := Bx3_one xb7; have HXA7 := Lib.hid xa7; have HXB7 := Lib.hid xb7))
      all_goals
        obtain ⟨w9, hw9, h9, hg9⟩ := Tm.set3 HXA8.out (.slice CN TA.ns.length fN) (.slice CR TA.rs.length fR) (.slice CW TA.ws.length fW)
        have h9b := (hg9.block (w.heap.size + 1) (blt HXB8.out) (fun e => by injection e with e; omega)).trans HXB8.out
        obtain ⟨w10, hw10, h10, hg10⟩ := Tm.set3 h9b (.slice EN TB.ns.length eN) (.slice ER TB.rs.length eR) (.slice EW TB.ws.length eW)
        have h10a := (hg10.block w.heap.size (blt h9) (fun e => by injection e with e; omega)).trans h9
        have hs28 : w2.heap.size ≤ w7.heap.size := hb7.size
        have hkeep : ∀ k, w2.heap.size ≤ k → k < w8.heap.size → w10.heap[k]? = w8.heap[k]? := fun k hk hl =>
          (hg10.block k (by have := hg9.size; omega) (fun e => by injection e with e; omega)).trans (hg9.block k hl (fun e => by injection e with e; omega))
        have HGA := Lib.hid (ga_at (HF7.out w10 (fun k hk hl => (hkeep k hk (by have := hb8.size; omega)).trans (hb8.block k hl))))
        have HGB := Lib.hid (ga_at (HF8.out w10 (fun k hk hl => hkeep k (by omega) hl)))
        have HBX : Hid (Below w.heap.size w w10) := Lib.hid (HBW8.out.trans ⟨hg10.os.trans hg9.os, hg10.tape.trans hg9.tape, hg10.output.trans hg9.output, Nat.le_trans hg9.size hg10.size, fun k hk => (hg10.block k (by have := hg9.size; have := hb8.size; omega) (fun e => by injection e with e; omega)).trans (hg9.block k (by have := hb8.size; omega) (fun e => by injection e with e; omega))⟩)
        have HEN := Lib.hid (eqns_any CN EN fN eN TA.ns TB.ns w10 (by omega) (by omega) HLA2.out HLB2.out HGA.out.n HGB.out.n)
        obtain ⟨q0, q1, q2⟩ := Bx3_one h10a
        obtain ⟨r0, r1, r2⟩ := Bx3_one h10
        have HX10 := Lib.hid h10a
        have HY10 := Lib.hid h10
        rw [hw9, hw10]
        clear hw9 hw10 h9 h9b hg9 h10 h10a hg10 hkeep hg7 hf7 hg8 hf8 xa7 xb7 xa8 xb8 hb7 hb8 qf0 qf1 qf2 rf0 rf1 rf2
        go_wp2_with fail
        refine HEN.out.mono ?_
        rintro e w11 ⟨rfl, hb11⟩
        have hx11 := (hb11.block _ (blt HX10.out)).trans HX10.out
        have hy11 := (hb11.block _ (blt HY10.out)).trans HY10.out
        obtain ⟨m0, m1, m2⟩ := Bx3_one hx11
        obtain ⟨n0, n1, n2⟩ := Bx3_one hy11
        have HB11 := Lib.hid (HBX.out.trans (hb11.mono HBX.out.size))
        have HE1 := Lib.hid (eqints_any CR ER fR eR TA.rs TB.rs w11 (by omega) (by omega) (HGA.out.r.below hb11.block) (HGB.out.r.below hb11.block))
        have HRA := Lib.hid (HGA.out.s.below hb11.block)
        have HRB := Lib.hid (HGB.out.s.below hb11.block)
        have HX11 := Lib.hid hx11
        have HY11 := Lib.hid hy11
        clear hb11 hx11 hy11
        cases d1 : decide (TA.ns = TB.ns)
        · rw [d1] at HR
          clear d1
          go_wp2
          go_ret
          rw [HR.out]
          exact ⟨rfl, HB11.out⟩
        · rw [d1] at HR
          clear d1
          go_wp2_with fail
          refine HE1.out.mono ?_
          rintro e w12 ⟨rfl, hb12⟩
          have hx12 := (hb12.block _ (blt HX11.out)).trans HX11.out
          have hy12 := (hb12.block _ (blt HY11.out)).trans HY11.out
          obtain ⟨i0, i1, i2⟩ := Bx3_one hx12
          obtain ⟨j0, j1, j2⟩ := Bx3_one hy12
          have HB12 := Lib.hid (HB11.out.trans (hb12.mono HB11.out.size))
          have HE2 := Lib.hid (eqints_any CW EW fW eW TA.ws TB.ws w12 (by omega) (by omega) (HRA.out.below hb12.block) (HRB.out.below hb12.block))
          clear hb12 hx12 hy12
          cases d2 : decide (TA.rs = TB.rs)
          · rw [d2] at HR
            clear d2
            go_wp2
            go_ret
            rw [HR.out]
            exact ⟨rfl, HB12.out⟩
          · rw [d2] at HR
            clear d2
            go_wp2_with fail
            refine HE2.out.mono ?_
            rintro e w13 ⟨rfl, hb13⟩
            have HB13 := Lib.hid (HB12.out.trans (hb13.mono HB12.out.size))
            clear hb13
            go_wp2
            go_ret
            rw [HR.out]
            exact ⟨rfl, HB13.out⟩
end Go.Proofs.YtdgclpgjoanimaaDoor.Al
