/-
  The reference's text of a graph, by contract.
-/
import Derived.Test.YtdgclpgjoanimaaDoorTg
import Derived.Test.YtdgclpgjoanimaaDoorVs
import Derived.Test.YtdgclpgjoanimaaDoorMc
namespace Go.Proofs.YtdgclpgjoanimaaDoor.Rg
open Go.RowKit Go.ChangeShapes Go.WideShapes Go.Proofs.YtdgclpgjoanimaaDoorW.PrintWords Go.Proofs.YtdgclpgjoanimaaDoor.Ba Go.Proofs.YtdgclpgjoanimaaDoor.Ma Go.Proofs.YtdgclpgjoanimaaDoor.Mb Go.Proofs.YtdgclpgjoanimaaDoor.Pu Go.Proofs.YtdgclpgjoanimaaDoor.Wa Go.Proofs.YtdgclpgjoanimaaDoor.To Go.Proofs.YtdgclpgjoanimaaDoor.Tr Go.Proofs.YtdgclpgjoanimaaDoor.Ld Go.Proofs.YtdgclpgjoanimaaDoor.Hx Go.Proofs.YtdgclpgjoanimaaDoor.Tb Go.Proofs.YtdgclpgjoanimaaDoor.Tg
set_option linter.unusedVariables false
set_option linter.unusedSimpArgs false
set_option maxRecDepth 100000
theorem sz_l (l : List UInt8) : (⟨l.toArray⟩ : ByteArray).size = l.length := by show l.toArray.size = _; rw [List.size_toArray]
theorem adds_str (P T : List UInt8) : ∃ qa qt qu qv : ByteArray, (⟨P.toArray⟩ : ByteArray) = qa ∧ (⟨T.toArray⟩ : ByteArray) = qt ∧ (⟨(P ++ 32 :: T).toArray⟩ : ByteArray) = qv ∧ (⟨#[32]⟩ : ByteArray) ++ qt = qu ∧ qa ++ qu = qv ∧ qa.size = P.length ∧ qt.size = T.length ∧ qu.size = T.length + 1 :=
  ⟨_, _, _, _, rfl, rfl, rfl, rfl, by rw [cons_str, app_str], sz_l _, sz_l _, by rw [cons_str, sz_l]; rfl⟩
theorem add_str (P T : List UInt8) : ∃ qa qt qv : ByteArray, (⟨P.toArray⟩ : ByteArray) = qa ∧ (⟨T.toArray⟩ : ByteArray) = qt ∧ (⟨(P ++ T).toArray⟩ : ByteArray) = qv ∧ qa ++ qt = qv ∧ qa.size = P.length ∧ qt.size = T.length :=
  ⟨_, _, _, rfl, rfl, rfl, app_str _ _, sz_l _, sz_l _⟩
theorem add_nl (P : List UInt8) : ∃ qa qv : ByteArray, (⟨P.toArray⟩ : ByteArray) = qa ∧ (⟨(P ++ [10]).toArray⟩ : ByteArray) = qv ∧ qa ++ (⟨#[10]⟩ : ByteArray) = qv ∧ qa.size = P.length :=
  ⟨_, _, rfl, rfl, app_str _ [10], sz_l _⟩
set_option maxHeartbeats 16000000 in
theorem rtextg_any (v : Value) (g : G3) (w : World) (h : GAt w v g) (hz : Sz g) (hok : ok3 g) (ht : Vn.Sn w) : Calls Tryd.prog 15 #[v] w fun e w' => e = .returned (.string ⟨(textR g).toArray⟩) ∧ Below w.heap.size w w' := by
  have HG := Lib.hid h
  obtain ⟨AN, cN, AR, cR, AW, cW, rfl, _, _, _, hN, hR, hW⟩ := h
  have HN := Lib.hid hN
  have HR := Lib.hid hR
  have HW := Lib.hid hW
  have z1 := hz.r
  have z2 := hz.s
  have HZ := Lib.hid hz.f
  have HOK := Lib.hid hok
  have HSN := Lib.hid ht
  have HTB : Hid (∀ W, Below w.heap.size w W → Tab W) := Lib.hid (fun W hW => ht.t.below hW)
  have HTZ : Hid (∀ W, Below w.heap.size w W → Fb.Tz W) := Lib.hid (fun W hW => ht.z.below hW)
  have HM := Lib.hid (fun W (hW : GAt W (.agg #[.slice AN g.ns.length cN, .slice AR g.rs.length cR, .slice AW g.ws.length cW]) g) => Mc.rmay_any _ g W hW hz)
  obtain ⟨w0, hw0⟩ : ∃ w0, w.alloc (.cells #[.slice AN g.ns.length cN, .slice AR g.rs.length cR, .slice AW g.ws.length cW] 25) = w0 := ⟨_, rfl⟩
  have HB0 : Hid (Below w.heap.size w w0) := Lib.hid (by rw [← hw0]; exact bel_one _ _)
  have HX0 : Hid (w0.heap[w.heap.size]? = some (.cells #[.slice AN g.ns.length cN, .slice AR g.rs.length cR, .slice AW g.ws.length cW] 25 (0, 0))) := Lib.hid (by rw [← hw0]; exact heap_alloc_new w _)
  obtain ⟨x0, x1, x2⟩ := Bx3_one HX0.out
  clear hN hR hW hok ht hz
  cases em : mayG g
  · have HE : Hid (textR g = []) := Lib.hid (by unfold textR; rw [em]; rfl)
    rw [em] at HM
    clear em
    go_enter Tryd.func15, Tryd.ntmps15
    go_wp2_with fail
    refine (HM.out _ (HG.out.below HB0.out)).mono ?_
    rintro e w1 ⟨rfl, hb1⟩
    have HB1 := Lib.hid (HB0.out.trans (hb1.mono HB0.out.size))
    clear hb1
    go_wp2
    go_ret
    rw [HE.out]
    exact ⟨rfl, HB1.out⟩
  have hn := Re.may_len em
  have HE : Hid (textR g = textG g) := Lib.hid (by unfold textR; rw [em]; rfl)
  have HKD : Hid (∀ x ∈ g.ns, ∀ v ∈ x.fs, v.kd = 0 ∨ v.kd = 1 ∨ v.kd = 2 ∨ v.kd = 3) := Lib.hid (fun x hx v hv => by
    have h2 := em
    unfold mayG at h2
    simp only [Bool.and_eq_true, List.all_eq_true] at h2
    have h3 := h2.2 x hx v hv
    unfold fieldB at h3
    simp only [Bool.and_eq_true, decide_eq_true_eq] at h3
    omega)
  rw [em] at HM
  clear em
  go_enter Tryd.func15, Tryd.ntmps15
  go_wp2_with fail
  refine (HM.out _ (HG.out.below HB0.out)).mono ?_
  rintro e w1 ⟨rfl, hb1⟩
  have HB1 := Lib.hid (HB0.out.trans (hb1.mono HB0.out.size))
  have HX1 := Lib.hid ((hb1.block _ (bsz HX0.out)).trans HX0.out)
  clear hb1 x0 x1 x2 hw0
  obtain ⟨x0, x1, x2⟩ := Bx3_one HX1.out
  go_wp2
  go_loopw [3, 18] (fun s i wr => ∃ k : Nat, k ≤ g.ns.length ∧ i = .int .i64 (k : Int) ∧ s = .string ⟨(nodesB (g.ns.take k)).toArray⟩ ∧ Below w1.heap.size w1 wr) (fun _ i _ => g.ns.length - (intOf i).toNat)
  case atStart => exact ⟨0, by omega, rfl, rfl, Below.refl _ _⟩
  case round =>
    obtain ⟨k, hk, rfl, rfl, hb⟩ := hrel
    have HBX := Lib.hid hb
    have HBC : Hid (Below w.heap.size w wr) := Lib.hid (HB1.out.trans (hb.mono HB1.out.size))
    by_cases hlt : k < g.ns.length
    · obtain ⟨ad, rfl, hc⟩ := HN.out k hlt
      have HE1 : Hid (nodesB (g.ns.take (k + 1)) = nodesB (g.ns.take k) ++ nodeB (g.ns.getD k zN)) := Lib.hid (flat_snoc _ _ zN k hlt)
      have HLN : Hid ((nodesB (g.ns.take k)).length ≤ 143450112) := Lib.hid (by
        have := nodesB_le (l := g.ns.take k) (fun x hx => ⟨HOK.out.1.2 x (List.mem_of_mem_take hx), HZ.out x (List.mem_of_mem_take hx)⟩)
        rw [List.length_take] at this
        omega)
      have hzl := HZ.out _ (mem_getD (d := zN) hlt)
      have hokx := HOK.out.1.2 _ (mem_getD (d := zN) hlt)
      have hkd := HKD.out _ (mem_getD (d := zN) hlt)
      obtain ⟨x, hx⟩ : ∃ x, g.ns.getD k zN = x := ⟨_, rfl⟩
      rw [hx] at hc HE1 hzl hokx hkd
      clear hx
      obtain ⟨y0, A7, c7, y1, _, hf⟩ := hc
      obtain ⟨f0, f1⟩ := x
      dsimp only at y0 y1 hf hzl hkd
      have HFX : Hid (∀ W, Below w.heap.size w W → Fv W A7 f1) := Lib.hid (fun W hW => hf.old hW.block)
      have y0 := cell_old y0 HBC.out.block
      have y1 := cell_old y1 HBC.out.block
      obtain ⟨m0, m1⟩ := i64_bd hokx.1
      have HOF : Hid (∀ v ∈ f1, ok5 v) := Lib.hid hokx.2.2
      have HKF := Lib.hid hkd
      obtain ⟨wo, hwo⟩ : ∃ wo : World, wo = wr := ⟨_, rfl⟩
      subst hwo
      obtain ⟨w5, hw5⟩ : ∃ w5, wo.alloc (.cells #[.int .i64 f0, .slice A7 f1.length c7] 33) = w5 := ⟨_, rfl⟩
      have HB5 : Hid (Below w1.heap.size w1 w5) := Lib.hid (by rw [← hw5]; exact hb.alloc hb.size _)
      have HBW5 : Hid (Below w.heap.size w w5) := Lib.hid (HB1.out.trans (HB5.out.mono HB1.out.size))
      have HX5 : Hid (w5.heap[wo.heap.size]? = some (.cells #[.int .i64 f0, .slice A7 f1.length c7] 33 (0, 0))) := Lib.hid (by rw [← hw5]; exact heap_alloc_new wo _)
      obtain ⟨n0, n1⟩ := two_cells HX5.out
      have HF := Lib.hid (Ld.itoa f0 m0 m1 w5 (HTB.out _ HBW5.out))
      have hil := Lib.itoa_length_le f0 m0 m1
      obtain ⟨T, hT⟩ : ∃ T, Lib.itoa f0 = T := ⟨_, rfl⟩
      obtain ⟨Pp, hPp⟩ : ∃ Pp, nodesB (g.ns.take k) = Pp := ⟨_, rfl⟩
      rw [hT] at HF hil
      rw [hPp] at HLN HE1
      obtain ⟨qa, qt, qv, hqa, hqt, hqv, a1, za, zt⟩ := add_str Pp T
      have l1 := HLN.out
      obtain ⟨P, hP⟩ : ∃ P, Pp ++ T = P := ⟨_, rfl⟩
      have HE2 : Hid (nodesB (g.ns.take (k + 1)) = (P ++ fldB f1) ++ [10]) := Lib.hid (by rw [HE1.out, ← hP, ← hT]; simp [nodeB])
      have HLP : Hid (P.length ≤ 143450133) := Lib.hid (by rw [← hP, List.length_append]; omega)
      have HQV : Hid (⟨P.toArray⟩ = qv) := Lib.hid (by rw [← hqv, ← hP])
      rw [hPp, hqa]
      rw [hqt] at HF
      clear hf m0 m1 hokx hkd hT hPp hqa hqt hqv HE1 hb
      go_wp2_with fail
      refine HF.out.mono ?_
      rintro e w6 ⟨rfl, hb6⟩
      have hx6 := (hb6.block _ (bsz HX5.out)).trans HX5.out
      have HB6 := Lib.hid (HB5.out.trans (hb6.mono HB5.out.size))
      clear hb6 n0 n1 hw5
      obtain ⟨n0, n1⟩ := two_cells hx6
      go_wp2
      go_loopw [3, 30] (fun s i wr => ∃ u : Nat, u ≤ f1.length ∧ i = .int .i64 (u : Int) ∧ s = .string ⟨(P ++ fldB (f1.take u)).toArray⟩ ∧ Below w1.heap.size w1 wr) (fun _ i _ => f1.length - (intOf i).toNat)
      case atStart => exact ⟨0, by omega, rfl, by rw [← HQV.out]; simp [fldB], HB6.out⟩
      case round =>
        obtain ⟨u, hu, rfl, rfl, hb⟩ := hrel
        have HB7 := Lib.hid hb
        have HBW7 : Hid (Below w.heap.size w wr) := Lib.hid (HB1.out.trans (hb.mono HB1.out.size))
        clear a1 za zt l1
        by_cases hlt2 : u < f1.length
        · obtain ⟨ad2, rfl, hc⟩ := (HFX.out wr HBW7.out) u hlt2
          have HE3 : Hid (fldB (f1.take (u + 1)) = fldB (f1.take u) ++ (32 :: textV (f1.getD u z5))) := Lib.hid (flat_snoc _ _ z5 u hlt2)
          have hok5 := HOF.out _ (mem_getD (d := z5) hlt2)
          have hk5 := HKF.out _ (mem_getD (d := z5) hlt2)
          have HLF : Hid ((fldB (f1.take u)).length ≤ 35000) := Lib.hid (by
            have := fldB_le (l := f1.take u) (fun x hx => HOF.out x (List.mem_of_mem_take hx))
            rw [List.length_take] at this
            omega)
          obtain ⟨x, hx⟩ : ∃ x, f1.getD u z5 = x := ⟨_, rfl⟩
          rw [hx] at hc HE3 hok5 hk5
          clear hx
          have hlv := textV_length x hok5
          have HTX : Hid (∀ W, Below w.heap.size w W → Calls Tryd.prog 39 #[agg5 x] W fun e w' => e = .returned (.string ⟨(textV x).toArray⟩) ∧ Below W.heap.size W w') := Lib.hid (fun W hW => Fb.vtext_any x W hk5 hok5 (HTB.out W hW) (HTZ.out W hW))
          obtain ⟨l, hl⟩ : ∃ l, textV x = l := ⟨_, rfl⟩
          rw [hl] at HE3 hlv HTX
          obtain ⟨q0, q1, q2, q3, q4⟩ := hc
          obtain ⟨e0, e1, e2, e3, e4⟩ := x
          unfold agg5 at HTX
          dsimp only at q0 q1 q2 q3 q4 HTX
          obtain ⟨w7, hw7⟩ : ∃ w7, wr.alloc (.cells #[.int .i64 e0, .int .i64 e1, .int .u64 e2, .int .u64 e3, .int .i64 e4] 36) = w7 := ⟨_, rfl⟩
          have HB8 : Hid (Below w1.heap.size w1 w7) := Lib.hid (by rw [← hw7]; exact hb.alloc hb.size _)
          have hbx : Bx5 w7 wr.heap.size ⟨e0, e1, e2, e3, e4⟩ := by rw [← hw7]; exact heap_alloc_new wr _
          obtain ⟨c0, c1, c2, c3, c4⟩ := hbx.cells
          obtain ⟨Pp, hPp⟩ : ∃ Pp, P ++ fldB (f1.take u) = Pp := ⟨_, rfl⟩
          obtain ⟨qa, qt, qu, qv2, hqa, hqt, hqv2, a1, a2, za, zt, zu⟩ := adds_str Pp l
          have l1 : Pp.length ≤ 150000000 := by
            have := HLP.out
            have := HLF.out
            rw [← hPp, List.length_append]
            omega
          have HEV : Hid (⟨(P ++ fldB (f1.take (u + 1))).toArray⟩ = qv2) := Lib.hid (by rw [← hqv2, HE3.out, ← hPp]; simp [List.append_assoc])
          have HT7 := Lib.hid (HTX.out w7 (HB1.out.trans (HB8.out.mono HB1.out.size)))
          rw [hqt] at HT7
          rw [hPp, hqa]
          clear hb hl hok5 hk5 hbx hPp hqa hqt hqv2 HTX
          go_wp2_with fail
          refine HT7.out.mono ?_
          rintro e w9 ⟨rfl, hb9⟩
          have HB9 := Lib.hid (HB8.out.trans (hb9.mono HB8.out.size))
          clear hb9
          go_wp2
          go_roundw
          case rel => exact ⟨u + 1, by omega, by go_num, by rw [HEV.out], HB9.out⟩
          case measure => simp [intOf]; omega
        · obtain rfl : u = f1.length := by omega
          rw [List.take_length]
          have HLF : Hid ((fldB f1).length ≤ 35000) := Lib.hid (by have := fldB_le HOF.out; omega)
          obtain ⟨Pp, hPp⟩ : ∃ Pp, P ++ fldB f1 = Pp := ⟨_, rfl⟩
          obtain ⟨qa, qv2, hqa, hqv2, a1, za⟩ := add_nl Pp
          have l1 : Pp.length ≤ 150000000 := by
            have := HLP.out
            have := HLF.out
            rw [← hPp, List.length_append]
            omega
          have HEV : Hid (⟨(nodesB (g.ns.take (k + 1))).toArray⟩ = qv2) := Lib.hid (by rw [← hqv2, HE2.out, ← hPp])
          rw [hPp, hqa]
          clear hb hPp hqa hqv2
          go_wp2
          go_roundw
          case rel => exact ⟨k + 1, by omega, by go_num, by rw [HEV.out], HB7.out⟩
          case measure => simp [intOf]; omega
    · obtain rfl : k = g.ns.length := by omega
      rw [List.take_length]
      obtain ⟨M, hM⟩ : ∃ M, nodesB g.ns = M := ⟨_, rfl⟩
      rw [hM]
      have HLM : Hid (M.length ≤ 143450112) := Lib.hid (by
        rw [← hM]
        have := nodesB_le (l := g.ns) (fun x hx => ⟨HOK.out.1.2 x hx, HZ.out x hx⟩)
        omega)
      have HLEN : Hid (M.length ≤ 143500000) := Lib.hid (by have := HLM.out; omega)
      have hx8 := (hb.block _ (bsz HX1.out)).trans HX1.out
      obtain ⟨M1, hM1⟩ : ∃ M1, M ++ (rootsB ++ intsB g.rs ++ [10]) = M1 := ⟨_, rfl⟩
      obtain ⟨M2, hM2⟩ : ∃ M2, M1 ++ (weaksB ++ intsB g.ws ++ [10]) = M2 := ⟨_, rfl⟩
      have HTXT : Hid (textG g = M2) := Lib.hid (by rw [← hM2, ← hM1, ← hM]; rfl)
      have HM1 := Lib.hid hM1
      have HM2 := Lib.hid hM2
      have HOR : Hid (∀ y ∈ g.rs, wf64 y) := Lib.hid HOK.out.2.1.2
      have HOW : Hid (∀ y ∈ g.ws, wf64 y) := Lib.hid HOK.out.2.2.2
      have HLEN1 : Hid (M1.length ≤ 143500000) := Lib.hid (by
        have h1 := HLM.out
        have h2 := intsB_le HOR.out
        have h3 : rootsB.length = 5 := rfl
        rw [← hM1]
        simp only [List.length_append, List.length_cons, List.length_nil]
        omega)
      have i0 : ∀ W : World, (Instr.index 60 (.agg #[.slice AR g.rs.length cR, .slice AW g.ws.length cW]) (.int .i64 0)).run Tryd.prog W = .ok (.slice AR g.rs.length cR) W := fun W => by rfl
      have i1 : ∀ W : World, (Instr.index 60 (.agg #[.slice AR g.rs.length cR, .slice AW g.ws.length cW]) (.int .i64 1)).run Tryd.prog W = .ok (.slice AW g.ws.length cW) W := fun W => by rfl
      have j0 : ∀ W : World, (Instr.index 61 (.agg #[.string ⟨#[114, 111, 111, 116, 115]⟩, .string ⟨#[119, 101, 97, 107, 115]⟩]) (.int .i64 0)).run Tryd.prog W = .ok (.string ⟨#[114, 111, 111, 116, 115]⟩) W := fun W => by rfl
      have j1 : ∀ W : World, (Instr.index 61 (.agg #[.string ⟨#[114, 111, 111, 116, 115]⟩, .string ⟨#[119, 101, 97, 107, 115]⟩]) (.int .i64 1)).run Tryd.prog W = .ok (.string ⟨#[119, 101, 97, 107, 115]⟩) W := fun W => by rfl
      clear hb hM hM1 hM2 x0 x1 x2
      obtain ⟨x0, x1, x2⟩ := Bx3_one hx8
      go_wp2
      go_loopw [3, 48] (fun s i wr => ((i = .int .i64 0 ∧ s = .string ⟨M.toArray⟩) ∨ (i = .int .i64 1 ∧ s = .string ⟨M1.toArray⟩) ∨ (i = .int .i64 2 ∧ s = .string ⟨M2.toArray⟩)) ∧ Below w.heap.size w wr) (fun _ i _ => 2 - (intOf i).toNat)
      case atStart => exact ⟨.inl ⟨rfl, rfl⟩, HBC.out⟩
      case round =>
        obtain ⟨hcase, hb⟩ := hrel
        rcases hcase with ⟨rfl, rfl⟩ | ⟨rfl, rfl⟩ | ⟨rfl, rfl⟩
        · have HB7 := Lib.hid hb
          obtain ⟨qa, hqa⟩ : ∃ q : ByteArray, (⟨M.toArray⟩ : ByteArray) = q := ⟨_, rfl⟩
          obtain ⟨qb, hqb⟩ : ∃ q : ByteArray, (⟨(M ++ rootsB).toArray⟩ : ByteArray) = q := ⟨_, rfl⟩
          have ad0 : qa ++ (⟨#[114, 111, 111, 116, 115]⟩ : ByteArray) = qb := by rw [← hqa, ← hqb]; exact app_str _ rootsB
          have za : qa.size = M.length := by rw [← hqa]; exact sz_l _
          have zl := HLEN.out
          have HQB := Lib.hid hqb
          rw [hqa]
          clear hqa hb
          go_wp2
          go_loopw [3, 59] (fun s i wr => ∃ u : Nat, u ≤ g.rs.length ∧ i = .int .i64 (u : Int) ∧ s = .string ⟨((M ++ rootsB) ++ intsB (g.rs.take u)).toArray⟩ ∧ Below w.heap.size w wr) (fun _ i _ => g.rs.length - (intOf i).toNat)
          case atStart => exact ⟨0, by omega, rfl, by rw [← HQB.out]; simp [intsB], HB7.out⟩
          case round =>
            obtain ⟨u, hu, rfl, rfl, hb⟩ := hrel
            have HB8 := Lib.hid hb
            have HQ := Lib.hid HQB.out
            clear ad0 za zl
            by_cases hlt : u < g.rs.length
            · obtain ⟨ad, rfl, hc⟩ := (HR.out.below hb.block) u hlt
              have HE5 : Hid (intsB (g.rs.take (u + 1)) = intsB (g.rs.take u) ++ (32 :: Lib.itoa (g.rs.getD u 0))) := Lib.hid (flat_snoc _ _ 0 u hlt)
              obtain ⟨n0, n1⟩ := i64_bd (HOR.out _ (mem_getD (d := 0) hlt))
              have HLI : Hid ((intsB (g.rs.take u)).length ≤ 22000) := Lib.hid (by
                have := intsB_le (l := g.rs.take u) (fun x hx => HOR.out x (List.mem_of_mem_take hx))
                rw [List.length_take] at this
                omega)
              obtain ⟨x, hx⟩ : ∃ x, g.rs.getD u 0 = x := ⟨_, rfl⟩
              rw [hx] at hc HE5 n0 n1
              have hil := Lib.itoa_length_le x n0 n1
              have HF := Lib.hid (Ld.itoa x n0 n1 wr (HTB.out _ hb))
              obtain ⟨T, hT⟩ : ∃ T, Lib.itoa x = T := ⟨_, rfl⟩
              obtain ⟨Pp, hPp⟩ : ∃ Pp, (M ++ rootsB) ++ intsB (g.rs.take u) = Pp := ⟨_, rfl⟩
              rw [hT] at HE5 HF hil
              obtain ⟨qa, qt, qu, qv, hqa, hqt, hqv, a1, a2, za, zt, zu⟩ := adds_str Pp T
              have HLL : Hid (Pp.length ≤ 150000000) := Lib.hid (by
                have := HLI.out
                have := HLEN.out
                have : rootsB.length = 5 := rfl
                rw [← hPp]
                simp only [List.length_append]
                omega)
              have HEV : Hid (⟨((M ++ rootsB) ++ intsB (g.rs.take (u + 1))).toArray⟩ = qv) := Lib.hid (by rw [← hqv, HE5.out, ← hPp]; simp [List.append_assoc])
              have l1 := HLL.out
              rw [hPp, hqa]
              rw [hqt] at HF
              clear hx hb n0 n1 hT hPp hqa hqt hqv
              go_wp2_with fail
              refine HF.out.mono ?_
              rintro e w12 ⟨rfl, hb3⟩
              have HB9 := Lib.hid (HB8.out.trans (hb3.mono HB8.out.size))
              clear hb3
              go_wp2
              go_roundw
              case rel => exact ⟨u + 1, by omega, by go_num, by rw [HEV.out], HB9.out⟩
              case measure => simp [intOf]; omega
            · obtain rfl : u = g.rs.length := by omega
              rw [List.take_length]
              have HLI : Hid ((intsB g.rs).length ≤ 22000) := Lib.hid (by have := intsB_le HOR.out; omega)
              obtain ⟨Pp, hPp⟩ : ∃ Pp, (M ++ rootsB) ++ intsB g.rs = Pp := ⟨_, rfl⟩
              obtain ⟨qa, qv, hqa, hqv, a1, za⟩ := add_nl Pp
              have l1 : Pp.length ≤ 150000000 := by
                have := HLI.out
                have := HLEN.out
                have : rootsB.length = 5 := rfl
                rw [← hPp]
                simp only [List.length_append]
                omega
              have HEV : Hid (⟨M1.toArray⟩ = qv) := Lib.hid (by rw [← hqv, ← HM1.out, ← hPp]; simp [List.append_assoc])
              rw [hPp, hqa]
              clear hb hPp hqa hqv
              go_wp2
              go_roundw
              case rel => exact ⟨.inr (.inl ⟨rfl, by rw [HEV.out]⟩), HB8.out⟩
              case measure => simp [intOf]
        · have HB7 := Lib.hid hb
          obtain ⟨qa, hqa⟩ : ∃ q : ByteArray, (⟨M1.toArray⟩ : ByteArray) = q := ⟨_, rfl⟩
          obtain ⟨qb, hqb⟩ : ∃ q : ByteArray, (⟨(M1 ++ weaksB).toArray⟩ : ByteArray) = q := ⟨_, rfl⟩
          have ad0 : qa ++ (⟨#[119, 101, 97, 107, 115]⟩ : ByteArray) = qb := by rw [← hqa, ← hqb]; exact app_str _ weaksB
          have za : qa.size = M1.length := by rw [← hqa]; exact sz_l _
          have zl := HLEN1.out
          have HQB := Lib.hid hqb
          rw [hqa]
          clear hqa hb
          go_wp2
          go_loopw [3, 59] (fun s i wr => ∃ u : Nat, u ≤ g.ws.length ∧ i = .int .i64 (u : Int) ∧ s = .string ⟨((M1 ++ weaksB) ++ intsB (g.ws.take u)).toArray⟩ ∧ Below w.heap.size w wr) (fun _ i _ => g.ws.length - (intOf i).toNat)
          case atStart => exact ⟨0, by omega, rfl, by rw [← HQB.out]; simp [intsB], HB7.out⟩
          case round =>
            obtain ⟨u, hu, rfl, rfl, hb⟩ := hrel
            have HB8 := Lib.hid hb
            have HQ := Lib.hid HQB.out
            clear ad0 za zl
            by_cases hlt : u < g.ws.length
            · obtain ⟨ad, rfl, hc⟩ := (HW.out.below hb.block) u hlt
              have HE5 : Hid (intsB (g.ws.take (u + 1)) = intsB (g.ws.take u) ++ (32 :: Lib.itoa (g.ws.getD u 0))) := Lib.hid (flat_snoc _ _ 0 u hlt)
              obtain ⟨n0, n1⟩ := i64_bd (HOW.out _ (mem_getD (d := 0) hlt))
              have HLI : Hid ((intsB (g.ws.take u)).length ≤ 22000) := Lib.hid (by
                have := intsB_le (l := g.ws.take u) (fun x hx => HOW.out x (List.mem_of_mem_take hx))
                rw [List.length_take] at this
                omega)
              obtain ⟨x, hx⟩ : ∃ x, g.ws.getD u 0 = x := ⟨_, rfl⟩
              rw [hx] at hc HE5 n0 n1
              have hil := Lib.itoa_length_le x n0 n1
              have HF := Lib.hid (Ld.itoa x n0 n1 wr (HTB.out _ hb))
              obtain ⟨T, hT⟩ : ∃ T, Lib.itoa x = T := ⟨_, rfl⟩
              obtain ⟨Pp, hPp⟩ : ∃ Pp, (M1 ++ weaksB) ++ intsB (g.ws.take u) = Pp := ⟨_, rfl⟩
              rw [hT] at HE5 HF hil
              obtain ⟨qa, qt, qu, qv, hqa, hqt, hqv, a1, a2, za, zt, zu⟩ := adds_str Pp T
              have HLL : Hid (Pp.length ≤ 150000000) := Lib.hid (by
                have := HLI.out
                have := HLEN1.out
                have : weaksB.length = 5 := rfl
                rw [← hPp]
                simp only [List.length_append]
                omega)
              have HEV : Hid (⟨((M1 ++ weaksB) ++ intsB (g.ws.take (u + 1))).toArray⟩ = qv) := Lib.hid (by rw [← hqv, HE5.out, ← hPp]; simp [List.append_assoc])
              have l1 := HLL.out
              rw [hPp, hqa]
              rw [hqt] at HF
              clear hx hb n0 n1 hT hPp hqa hqt hqv
              go_wp2_with fail
              refine HF.out.mono ?_
              rintro e w12 ⟨rfl, hb3⟩
              have HB9 := Lib.hid (HB8.out.trans (hb3.mono HB8.out.size))
              clear hb3
              go_wp2
              go_roundw
              case rel => exact ⟨u + 1, by omega, by go_num, by rw [HEV.out], HB9.out⟩
              case measure => simp [intOf]; omega
            · obtain rfl : u = g.ws.length := by omega
              rw [List.take_length]
              have HLI : Hid ((intsB g.ws).length ≤ 22000) := Lib.hid (by have := intsB_le HOW.out; omega)
              obtain ⟨Pp, hPp⟩ : ∃ Pp, (M1 ++ weaksB) ++ intsB g.ws = Pp := ⟨_, rfl⟩
              obtain ⟨qa, qv, hqa, hqv, a1, za⟩ := add_nl Pp
              have l1 : Pp.length ≤ 150000000 := by
                have := HLI.out
                have := HLEN1.out
                have : weaksB.length = 5 := rfl
                rw [← hPp]
                simp only [List.length_append]
                omega
              have HEV : Hid (⟨M2.toArray⟩ = qv) := Lib.hid (by rw [← hqv, ← HM2.out, ← hPp]; simp [List.append_assoc])
              rw [hPp, hqa]
              clear hb hPp hqa hqv
              go_wp2
              go_roundw
              case rel => exact ⟨.inr (.inr ⟨rfl, by rw [HEV.out]⟩), HB8.out⟩
              case measure => simp [intOf]
        · go_wp2
          go_ret
          rw [HE.out, HTXT.out]
          exact ⟨rfl, hb⟩
end Go.Proofs.YtdgclpgjoanimaaDoor.Rg
