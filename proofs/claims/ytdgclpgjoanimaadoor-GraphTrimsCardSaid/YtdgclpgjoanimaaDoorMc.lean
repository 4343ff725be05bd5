/- The reference's May. -/
import Derived.Test.YtdgclpgjoanimaaDoorMb
namespace Go.Proofs.YtdgclpgjoanimaaDoor.Mc
open Go.RowKit Go.ChangeShapes Go.WideShapes Go.Proofs.YtdgclpgjoanimaaDoorW.PrintWords Go.Proofs.YtdgclpgjoanimaaDoor.Ba Go.Proofs.YtdgclpgjoanimaaDoor.Ma Go.Proofs.YtdgclpgjoanimaaDoor.Mb
set_option linter.unusedVariables false
theorem root_cases (n : Nat) (x : Int) : (rootB n x = true ∧ -1 ≤ x ∧ x < (n : Int)) ∨ (rootB n x = false ∧ x < -1) ∨ (rootB n x = false ∧ -1 ≤ x ∧ (n : Int) ≤ x) := by
  unfold rootB isB
  by_cases h1 : x < -1
  · right; left
    refine ⟨?_, h1⟩
    have : (x == -1) = false := by rw [beq_eq_false_iff_ne]; omega
    have : decide (0 ≤ x) = false := decide_eq_false (by omega)
    simp [*]
  · by_cases h2 : x < (n : Int)
    · left
      refine ⟨?_, by omega, h2⟩
      by_cases h3 : x = -1
      · simp [h3]
      · have : decide (0 ≤ x) = true := decide_eq_true (by omega)
        simp [this, h2]
    · right; right
      refine ⟨?_, by omega, by omega⟩
      have : (x == -1) = false := by rw [beq_eq_false_iff_ne]; omega
      simp [this, h2]
theorem field_cases (n : Nat) (x : V5) : (fieldB n x = true ∧ ((0 ≤ x.kd ∧ x.kd ≤ 3 ∧ (x.kd == 3) = false) ∨ (x.kd = 3 ∧ 0 ≤ x.ref ∧ x.ref < (n : Int)))) ∨
    (fieldB n x = false ∧ (x.kd < 0 ∨ (0 ≤ x.kd ∧ 3 < x.kd) ∨ (x.kd = 3 ∧ x.ref < 0) ∨ (x.kd = 3 ∧ 0 ≤ x.ref ∧ (n : Int) ≤ x.ref))) := by
  unfold fieldB isB
  by_cases h0 : 0 ≤ x.kd
  · by_cases h1 : x.kd ≤ 3
    · by_cases h3 : x.kd = 3
      · by_cases h4 : 0 ≤ x.ref
        · by_cases h5 : x.ref < (n : Int)
          · left; refine ⟨by simp [h3, h4, h5], .inr ⟨h3, h4, h5⟩⟩
          · right; refine ⟨by simp [h3, h5], .inr (.inr (.inr ⟨h3, h4, by omega⟩))⟩
        · right; refine ⟨by simp [h3, h4], .inr (.inr (.inl ⟨h3, by omega⟩))⟩
      · have e : (x.kd == 3) = false := by rw [beq_eq_false_iff_ne]; exact h3
        left; refine ⟨by simp [h0, h1, e], .inl ⟨h0, h1, e⟩⟩
    · right; refine ⟨by simp [h1], .inr (.inl ⟨h0, by omega⟩)⟩
  · right; refine ⟨by simp [h0], .inl (by omega)⟩
set_option maxHeartbeats 16000000 in
set_option maxRecDepth 20000 in
theorem rmay_any (v : Value) (g : G3) (w : World) (h : GAt w v g) (hz : Sz g) : Calls Tryd.prog 35 #[v] w (BoolPost (mayG g) w) := by
  obtain ⟨AN, cN, AR, cR, AW, cW, rfl, _, _, _, hN, hR, hW⟩ := h
  have z1 := hz.r
  have z2 := hz.s
  have HZ := Lib.hid hz.f
  have HN := Lib.hid hN
  have HR := Lib.hid hR
  have HW := Lib.hid hW
  clear hN hR hW hz
  have hb0 := ((Below.refl w.heap.size w).alloc (Nat.le_refl _) (.cells #[.slice AN g.ns.length cN, .slice AR g.rs.length cR, .slice AW g.ws.length cW] 25))
  have HB := Lib.hid hb0
  by_cases hm : 4096 < g.ns.length
  · have e : mayG g = false := by
      have : decide (g.ns.length ≤ 4096) = false := decide_eq_false (by omega)
      unfold mayG; rw [this]; rfl
    rw [e]
    clear hb0
    go_enter Tryd.func35, Tryd.ntmps35
    go_wp2
    go_ret
    exact ⟨rfl, HB.out⟩
  · have HM : Hid (mayG g = (((g.rs).all (rootB g.ns.length) && g.ws.all (rootB g.ns.length)) && g.ns.all (fun x => x.fs.all (fieldB g.ns.length)))) := Lib.hid (by
      have : decide (g.ns.length ≤ 4096) = true := decide_eq_true (by omega)
      unfold mayG; rw [this, Bool.true_and, List.all_append])
    obtain ⟨m, hm⟩ : ∃ m, mayG g = m := ⟨_, rfl⟩
    rw [hm] at HM ⊢
    have HR2 := Lib.hid (HR.out.below hb0.block)
    have HW2 := Lib.hid (HW.out.below hb0.block)
    have HN2 := Lib.hid (HN.out.old hb0.block)
    clear hm hb0
    have i0 : ∀ W : World, (Instr.index 60 (.agg #[.slice AR g.rs.length cR, .slice AW g.ws.length cW]) (.int .i64 0)).run Tryd.prog W = .ok (.slice AR g.rs.length cR) W := fun W => by rfl
    have i1 : ∀ W : World, (Instr.index 60 (.agg #[.slice AR g.rs.length cR, .slice AW g.ws.length cW]) (.int .i64 1)).run Tryd.prog W = .ok (.slice AW g.ws.length cW) W := fun W => by rfl
    go_enter Tryd.func35, Tryd.ntmps35
    go_wp2
    go_loop [22] (fun i => (i = .int .i64 0) ∨ (i = .int .i64 1 ∧ g.rs.all (rootB g.ns.length) = true) ∨ (i = .int .i64 2 ∧ g.rs.all (rootB g.ns.length) = true ∧ g.ws.all (rootB g.ns.length) = true)) (fun i => 2 - (intOf i).toNat)
    case atStart => exact .inl rfl
    case round =>
      rcases hrel with rfl | ⟨rfl, h1⟩ | ⟨rfl, h1, h2⟩
      · go_wp2
        go_loop [27] (fun i => ∃ k : Nat, k ≤ g.rs.length ∧ i = .int .i64 (k : Int) ∧ (g.rs.take k).all (rootB g.ns.length) = true) (fun i => g.rs.length - (intOf i).toNat)
        case atStart => exact ⟨0, by omega, rfl, rfl⟩
        case round =>
          obtain ⟨k, hk, rfl, hno⟩ := hrel
          have HNO := Lib.hid hno
          clear hno
          by_cases hlt : k < g.rs.length
          · obtain ⟨ad, rfl, hc⟩ := HR2.out k hlt
            have HE := Lib.hid (all_take_snoc (d := 0) HNO.out hlt)
            have HF : Hid (rootB g.ns.length (g.rs.getD k 0) = false → m = false) := Lib.hid (fun h => by rw [HM.out, all_no (d := 0) h hlt]; rfl)
            have rc := root_cases g.ns.length (g.rs.getD k 0)
            obtain ⟨x, hx⟩ : ∃ x, g.rs.getD k 0 = x := ⟨_, rfl⟩
            rw [hx] at hc HE HF rc
            clear hx HNO
            rcases rc with ⟨ev, r1, r2⟩ | ⟨ev, r1⟩ | ⟨ev, r1, r2⟩
            · have HE2 := Lib.hid (HE.out.trans ev)
              clear HE HF ev
              go_wp2
              go_round
              case rel => exact ⟨k + 1, by omega, by go_num, HE2.out⟩
              case measure => simp [intOf]; omega
            all_goals
              have HF2 := Lib.hid (HF.out ev)
              clear HE HF ev
              go_wp2
              go_ret
              rw [HF2.out]
              exact ⟨rfl, HB.out⟩
          · obtain rfl : k = g.rs.length := by omega
            have HE2 := Lib.hid HNO.out
            rw [List.take_length] at HE2
            clear HNO
            go_wp2
            go_round
            case rel => exact .inr (.inl ⟨rfl, HE2.out⟩)
            case measure => simp [intOf]
      · have H1 := Lib.hid h1
        clear h1
        go_wp2
        go_loop [27] (fun i => ∃ k : Nat, k ≤ g.ws.length ∧ i = .int .i64 (k : Int) ∧ (g.ws.take k).all (rootB g.ns.length) = true) (fun i => g.ws.length - (intOf i).toNat)
        case atStart => exact ⟨0, by omega, rfl, rfl⟩
        case round =>
          obtain ⟨k, hk, rfl, hno⟩ := hrel
          have HNO := Lib.hid hno
          clear hno
          by_cases hlt : k < g.ws.length
          · obtain ⟨ad, rfl, hc⟩ := HW2.out k hlt
            have HE := Lib.hid (all_take_snoc (d := 0) HNO.out hlt)
            have HF : Hid (rootB g.ns.length (g.ws.getD k 0) = false → m = false) := Lib.hid (fun h => by rw [HM.out, H1.out, all_no (l := g.ws) (d := 0) h hlt]; rfl)
            have rc := root_cases g.ns.length (g.ws.getD k 0)
            obtain ⟨x, hx⟩ : ∃ x, g.ws.getD k 0 = x := ⟨_, rfl⟩
            rw [hx] at hc HE HF rc
            clear hx HNO
            rcases rc with ⟨ev, r1, r2⟩ | ⟨ev, r1⟩ | ⟨ev, r1, r2⟩
            · have HE2 := Lib.hid (HE.out.trans ev)
              clear HE HF ev
              go_wp2
              go_round
              case rel => exact ⟨k + 1, by omega, by go_num, HE2.out⟩
              case measure => simp [intOf]; omega
            all_goals
              have HF2 := Lib.hid (HF.out ev)
              clear HE HF ev
              go_wp2
              go_ret
              rw [HF2.out]
              exact ⟨rfl, HB.out⟩
          · obtain rfl : k = g.ws.length := by omega
            have HE2 := Lib.hid HNO.out
            rw [List.take_length] at HE2
            clear HNO
            go_wp2
            go_round
            case rel => exact .inr (.inr ⟨rfl, H1.out, HE2.out⟩)
            case measure => simp [intOf]
      · have HMM : Hid (m = g.ns.all (fun x => x.fs.all (fieldB g.ns.length))) := Lib.hid (by rw [HM.out, h1, h2]; rfl)
        clear h1 h2 HM HR2 HW2
        go_wp2
        go_loopw [43] (fun i wr => ∃ k : Nat, k ≤ g.ns.length ∧ i = .int .i64 (k : Int) ∧ (g.ns.take k).all (fun x => x.fs.all (fieldB g.ns.length)) = true ∧ Below w.heap.size w wr) (fun i _ => g.ns.length - (intOf i).toNat)
        case atStart => exact ⟨0, by omega, rfl, rfl, HB.out⟩
        case round =>
          obtain ⟨k, hk, rfl, hno, hb⟩ := hrel
          have HNO := Lib.hid hno
          have HBC := Lib.hid hb
          clear hno
          by_cases hlt : k < g.ns.length
          · obtain ⟨ad, rfl, hc⟩ := (HN.out.old hb.block) k hlt
            have HE := Lib.hid (all_take_snoc (d := zN) HNO.out hlt)
            have HF : Hid ((g.ns.getD k zN).fs.all (fieldB g.ns.length) = false → m = false) := Lib.hid (fun h => by rw [HMM.out]; exact all_no (p := fun x : N2 => x.fs.all (fieldB g.ns.length)) h hlt)
            have hzl := HZ.out _ (mem_getD (d := zN) hlt)
            obtain ⟨x, hx⟩ : ∃ x, g.ns.getD k zN = x := ⟨_, rfl⟩
            rw [hx] at hc HE HF hzl
            clear hx HNO
            obtain ⟨y0, A7, c7, y1, _, hf⟩ := hc
            obtain ⟨f0, f1⟩ := x
            dsimp only at y0 y1 hf HE HF hzl
            have HFV := Lib.hid hf
            have hb7 := hb.alloc hb.size (.cells #[.int .i64 f0, .slice A7 f1.length c7] 33)
            have HB7 := Lib.hid hb7
            have HBX := Lib.hid ((Below.refl wr.heap.size wr).alloc (Nat.le_refl _) (.cells #[.int .i64 f0, .slice A7 f1.length c7] 33))
            obtain ⟨wo, hwo⟩ : ∃ wo : World, wo = wr := ⟨_, rfl⟩
            subst hwo
            clear hb7 hf hb
            go_wp2
            go_loopw [50] (fun i wr => ∃ k : Nat, k ≤ f1.length ∧ i = .int .i64 (k : Int) ∧ (f1.take k).all (fieldB g.ns.length) = true ∧ Below w.heap.size w wr ∧ Below wo.heap.size wo wr) (fun i _ => f1.length - (intOf i).toNat)
            case atStart => exact ⟨0, by omega, rfl, rfl, HB7.out, HBX.out⟩
            case round =>
              obtain ⟨k2, hk2, rfl, hno, hb, hbx⟩ := hrel
              have HNO := Lib.hid hno
              clear hno
              by_cases hlt2 : k2 < f1.length
              · obtain ⟨ad2, rfl, hc⟩ := (HFV.out.old hbx.block) k2 hlt2
                have HE2 := Lib.hid (all_take_snoc (d := z5) HNO.out hlt2)
                have HF2 : Hid (fieldB g.ns.length (f1.getD k2 z5) = false → m = false) := Lib.hid (fun h => HF.out (all_no h hlt2))
                have rc := field_cases g.ns.length (f1.getD k2 z5)
                obtain ⟨x, hx⟩ : ∃ x, f1.getD k2 z5 = x := ⟨_, rfl⟩
                rw [hx] at hc HE2 HF2 rc
                clear hx HNO
                obtain ⟨q0, q1, q2, q3, q4⟩ := hc
                obtain ⟨e0, e1, e2, e3, e4⟩ := x
                dsimp only at q0 q1 q2 q3 q4 rc
                have HB8 := Lib.hid (hb.alloc hb.size (.cells #[.int .i64 e0, .int .i64 e1, .int .u64 e2, .int .u64 e3, .int .i64 e4] 36))
                have HB9 := Lib.hid (hbx.alloc hbx.size (.cells #[.int .i64 e0, .int .i64 e1, .int .u64 e2, .int .u64 e3, .int .i64 e4] 36))
                clear hb hbx
                rcases rc with ⟨ev, rc⟩ | ⟨ev, rc⟩
                · have HE3 := Lib.hid (HE2.out.trans ev)
                  clear HE2 HF2 ev
                  rcases rc with ⟨r1, r2, r3⟩ | ⟨rfl, r1, r2⟩
                  all_goals
                    go_wp2
                    go_roundw
                    case rel => exact ⟨k2 + 1, by omega, by go_num, HE3.out, HB8.out, HB9.out⟩
                    case measure => simp [intOf]; omega
                · have HF3 := Lib.hid (HF2.out ev)
                  clear HE2 HF2 ev
                  rcases rc with r1 | ⟨r1, r2⟩ | ⟨rfl, r1⟩ | ⟨rfl, r1, r2⟩
                  all_goals
                    go_wp2
                    go_ret
                    rw [HF3.out]
                    exact ⟨rfl, HB8.out⟩
              · obtain rfl : k2 = f1.length := by omega
                have HE2 : Hid ((g.ns.take (k + 1)).all (fun x => x.fs.all (fieldB g.ns.length)) = true) := Lib.hid (by
                  have := HNO.out
                  rw [List.take_length] at this
                  exact HE.out.trans this)
                clear HNO HE HF
                go_wp2
                go_roundw
                case rel => exact ⟨k + 1, by omega, by go_num, HE2.out, hb⟩
                case measure => simp [intOf]; omega
          · obtain rfl : k = g.ns.length := by omega
            have HMT : Hid (m = true) := Lib.hid (by
              have := HNO.out
              rw [List.take_length] at this
              rw [HMM.out, this])
            clear HMM HNO
            go_wp2
            go_ret
            rw [HMT.out]
            exact ⟨rfl, HBC.out⟩
end Go.Proofs.YtdgclpgjoanimaaDoor.Mc
