/- The walk of a graph: the program's. -/
import Derived.Test.YtdgclpgjoanimaaDoorWa
namespace Go.Proofs.YtdgclpgjoanimaaDoor.Wk
open Go.RowKit Go.ChangeShapes Go.WideShapes Go.Proofs.YtdgclpgjoanimaaDoorW.PrintWords Go.Proofs.YtdgclpgjoanimaaDoor.Ba Go.Proofs.YtdgclpgjoanimaaDoor.Ma Go.Proofs.YtdgclpgjoanimaaDoor.Mb Go.Proofs.YtdgclpgjoanimaaDoor.Pu Go.Proofs.YtdgclpgjoanimaaDoor.Wa
set_option linter.unusedVariables false
def mu (n : Nat) (a : Act) (_ : World) : Nat := n + 1 - (intOf (a.tmps.getD 10 undef)).toNat
def J (g : G3) (AN : Option Addr) (n cN : Nat) (AR : Option Addr) (nR cR : Nat) (AW : Option Addr) (nW cW : Nat) (F : List Int) (w : World) (a' : Act) (w' : World) : Prop := ∃ (out : List Int) (k : Nat) (v : Value), k ≤ out.length ∧ bfs g (n + 1 - k) k out = F ∧
  WS w' w.heap.size w.heap.size (w.heap.size + 1 + 1) (w.heap.size + 1 + 1 + 1) (w.heap.size + 1) n (.slice AN n cN) (.slice AR nR cR) (.slice AW nW cW) out v ∧ Below w.heap.size w w' ∧
  ∃ u1 u3 u8 u9 u11 u12 u13 u14 u15 u16 u17 u18 u19 u20 u21 u22 u23 u24 u25 u26 u27 u28 u29 u30 u31 u32 u33 u34 u35 u36 u37 u38 u39 u40 u41 u42 u43 u44 u45 u46 u47 u48 u49 u50 u51 u52 u53 u54 u55 u56 : Value, a' = ⟨#[.agg #[.slice AN n cN, .slice AR nR cR, .slice AW nW cW], u1, .pointer (some ⟨w.heap.size, 0, none⟩), u3, .slice none 0 0, .pointer (some ⟨w.heap.size + 1 + 1, 0, none⟩), .pointer (some ⟨w.heap.size + 1 + 1 + 1, 0, none⟩), .func (.func 43) #[] #[.pointer (some ⟨w.heap.size, 0, none⟩), .pointer (some ⟨w.heap.size + 1 + 1, 0, none⟩), .pointer (some ⟨w.heap.size + 1 + 1 + 1, 0, none⟩)], u8, u9, .int .i64 (k : Int), u11, u12, u13, u14, u15, u16, u17, u18, u19, u20, u21, u22, u23, u24, u25, u26, u27, u28, u29, u30, u31, u32, u33, u34, u35, u36, u37, u38, u39, u40, u41, u42, u43, u44, u45, u46, u47, u48, u49, u50, u51, u52, u53, u54, u55, u56], []⟩
theorem start (w : World) (n : Nat) (s0 s1 s2 : Value) : WS ((((w.alloc (.cells #[s0, s1, s2] 25)).alloc (.cells (madeCells #[.int .i64 0] n) 3)).alloc (.cells #[.slice (some ⟨w.heap.size + 1, 0, none⟩) n n] 23)).alloc (.cells #[.slice none 0 0] 23))
    w.heap.size w.heap.size (w.heap.size + 1 + 1) (w.heap.size + 1 + 1 + 1) (w.heap.size + 1) n s0 s1 s2 [] (.slice none 0 0) := by
  obtain ⟨w1, h1⟩ : ∃ w1, w.alloc (.cells #[s0, s1, s2] 25) = w1 := ⟨_, rfl⟩
  have z1 : w1.heap.size = w.heap.size + 1 := by rw [← h1, size_al]
  have a1 : w1.heap[w.heap.size]? = some (.cells #[s0, s1, s2] 25 (0, 0)) := by rw [← h1]; exact heap_alloc_new w _
  rw [h1]
  obtain ⟨w2, h2⟩ : ∃ w2, w1.alloc (.cells (madeCells #[.int .i64 0] n) 3) = w2 := ⟨_, rfl⟩
  have z2 : w2.heap.size = w.heap.size + 1 + 1 := by rw [← h2, size_al, z1]
  have b2 : Below w1.heap.size w1 w2 := by rw [← h2]; exact (Below.refl _ _).alloc (Nat.le_refl _) _
  have a2 : w2.rowIs (w.heap.size + 1) 3 n (metF []) := by
    rw [← h2, ← z1]
    exact (World.rowIs_made w1 (.int .i64 0) n 3).congr fun i hi => by simp [metF]
  rw [h2]
  obtain ⟨w3, h3⟩ : ∃ w3, w2.alloc (.cells #[.slice (some ⟨w.heap.size + 1, 0, none⟩) n n] 23) = w3 := ⟨_, rfl⟩
  have z3 : w3.heap.size = w.heap.size + 1 + 1 + 1 := by rw [← h3, size_al, z2]
  have b3 : Below w2.heap.size w2 w3 := by rw [← h3]; exact (Below.refl _ _).alloc (Nat.le_refl _) _
  have a3 : w3.heap[w.heap.size + 1 + 1]? = some (.cells #[.slice (some ⟨w.heap.size + 1, 0, none⟩) n n] 23 (0, 0)) := by rw [← h3, ← z2]; exact heap_alloc_new w2 _
  rw [h3]
  obtain ⟨w4, h4⟩ : ∃ w4, w3.alloc (.cells #[.slice none 0 0] 23) = w4 := ⟨_, rfl⟩
  have b4 : Below w3.heap.size w3 w4 := by rw [← h4]; exact (Below.refl _ _).alloc (Nat.le_refl _) _
  have a4 : w4.heap[w.heap.size + 1 + 1 + 1]? = some (.cells #[.slice none 0 0] 23 (0, 0)) := by rw [← h4, ← z3]; exact heap_alloc_new w3 _
  rw [h4]
  exact ⟨((b4.block _ (by omega)).trans ((b3.block _ (by omega)).trans (b2.block _ (by omega)))).trans a1, (b4.block _ (by omega)).trans a3, a4, (a2.of_block (b3.block _ (by omega))).of_block (b4.block _ (by omega)), own_nil _ _ _, by simp [Value.ownBlock], gd_nil n, by omega, by omega, by omega⟩
set_option maxHeartbeats 8000000 in
set_option maxRecDepth 20000 in
theorem walk_any (v : Value) (g : G3) (A : Option Addr) (c : Nat) (l : List Int) (w : World) (h : GAt w v g) (hz : Sz g) (hn : g.ns.length ≤ 4096) (hl : Rd w A l) (hll : l.length ≤ 10000) :
    Calls Tryd.prog 23 #[v, .slice A l.length c] w (Own w (walkL g l)) := by
  obtain ⟨AN, cN, AR, cR, AW, cW, rfl, _, _, _, hN, hR, hW⟩ := h
  have HZ := Lib.hid hz.f
  have HN := Lib.hid hN
  have HL := Lib.hid hl
  have hF : ∃ F, walkL g l = F := ⟨_, rfl⟩
  obtain ⟨F, hF⟩ := hF
  have HF := Lib.hid hF
  rw [hF]
  obtain ⟨n, hn'⟩ : ∃ n, g.ns.length = n := ⟨_, rfl⟩
  have HLen := Lib.hid hn'
  obtain ⟨nR, hR'⟩ : ∃ n, g.rs.length = n := ⟨_, rfl⟩
  obtain ⟨nW, hW'⟩ : ∃ n, g.ws.length = n := ⟨_, rfl⟩
  have hmk := print_make (P := Tryd.prog) 23 3 .i64 8 Tryd.underlying23 info3 (by decide) n (by omega)
  have HADD : ∀ (out : List Int) (v : Value) (x : Int) (w1 : World), WS w1 w.heap.size w.heap.size (w.heap.size + 1 + 1) (w.heap.size + 1 + 1 + 1) (w.heap.size + 1) n (.slice AN n cN) (.slice AR nR cR) (.slice AW nW cW) out v → w.heap.size ≤ w1.heap.size → _ :=
    fun out v x w1 h hB => add_any w.heap.size w.heap.size (w.heap.size + 1 + 1) (w.heap.size + 1 + 1 + 1) (w.heap.size + 1) AN n cN AR nR cR AW nW cW out v x w1 h hB (by omega)
  have HADD := Lib.hid HADD
  rw [hn', hR', hW']
  rw [hn'] at hn
  clear hN hR hW hl hF hn' hR' hW'
  go_enter Tryd.func23, Tryd.ntmps23
  go_wp2
  refine Sc.wp_scope_here 0 (J g AN n cN AR nR cR AW nW cW F w) (mu n) rfl ?_ ?_
  · rintro a' w' ⟨out, k, v, hk, hf, hs, hb, u1, u3, u8, u9, u11, u12, u13, u14, u15, u16, u17, u18, u19, u20, u21, u22, u23, u24, u25, u26, u27, u28, u29, u30, u31, u32, u33, u34, u35, u36, u37, u38, u39, u40, u41, u42, u43, u44, u45, u46, u47, u48, u49, u50, u51, u52, u53, u54, u55, u56, rfl⟩
    rw [← HLen.out] at hf
    have HS := Lib.hid hs
    have HB := Lib.hid hb
    have HFF := Lib.hid hf
    have hle := gd_le hs.gd
    have hbs := hb.size
    obtain ⟨q0, q1, q2⟩ := Bx3.cells hs.bx
    have q4 := cell_of_one hs.ho
    obtain ⟨_, A5, c5, rfl, hrd⟩ := own_rd hs.own
    clear hf hs
    by_cases hlt : k < out.length
    · obtain ⟨ad, rfl, hc⟩ := hrd k hlt
      have hx := HS.out.gd.2 _ (mem_getD (d := (0 : Int)) hlt)
      have hst := bfs_step (g := g) hlt (by rw [HLen.out]; exact hle)
      rw [HFF.out] at hst
      have HST := Lib.hid hst
      obtain ⟨y, hy⟩ : ∃ y, out.getD k 0 = y := ⟨_, rfl⟩
      rw [hy] at hc hx HST
      obtain ⟨hx0, hx1⟩ := isB_iff.1 hx
      obtain ⟨j, rfl⟩ : ∃ j : Nat, y = (j : Int) := ⟨y.toNat, by omega⟩
      have hj : j < g.ns.length := by rw [HLen.out]; omega
      obtain ⟨ad2, rfl, y0, A7, c7, y1, _, hfv⟩ := HN.out j hj
      have y1 := cell_old y1 hb.block
      have hzl := HZ.out _ (mem_getD (d := zN) hj)
      have HND : Hid ((nd g (j : Int)).fs = (g.ns.getD j zN).fs) := Lib.hid (by unfold nd; rw [Int.toNat_natCast])
      rw [HND.out] at HST
      obtain ⟨f0, f1⟩ : ∃ f, f = (g.ns.getD j zN).fs := ⟨_, rfl⟩
      rw [← f1] at y1 hfv hzl HST
      have e0 : ((k : Int) == (out.length : Int)) = false := by rw [beq_eq_false_iff_ne]; omega
      have HFV := Lib.hid hfv
      obtain ⟨wo, rfl⟩ : ∃ wo : World, wo = w' := ⟨_, rfl⟩
      clear hrd hst hy hx hfv f1 HND HFF hb y0
      go_wp2
      go_region
      go_wp2
      go_loopw [43] (fun i wr => ∃ (t : Nat) (v : Value), t ≤ f0.length ∧ i = .int .i64 (t : Int) ∧ WS wr w.heap.size w.heap.size (w.heap.size + 1 + 1) (w.heap.size + 1 + 1 + 1) (w.heap.size + 1) n (.slice (some ad2) n cN) (.slice AR nR cR) (.slice AW nW cW) (addFs n out (f0.take t)) v ∧ Below w.heap.size w wr) (fun i _ => f0.length - (intOf i).toNat)
      case atStart => exact ⟨0, _, Nat.zero_le _, rfl, HS.out.below (Below.refl _ _).drew, HB.out.drew⟩
      case round =>
        clear q0 q1 q2 q4 y1 hc
        obtain ⟨t, v, ht, rfl, hs, hb⟩ := hrel
        have HS2 := Lib.hid hs
        have HB2 := Lib.hid hb
        have hbs2 := hb.size
        clear hs
        by_cases hlt2 : t < f0.length
        · obtain ⟨ad3, rfl, hc⟩ := (HFV.out.old hb.block) t hlt2
          have HE : Hid (addFs n out (f0.take (t + 1)) = addF n (addFs n out (f0.take t)) (f0.getD t z5)) := Lib.hid (by rw [take_snoc f0 z5 t hlt2, addFs_snoc])
          obtain ⟨x, hx⟩ : ∃ x, f0.getD t z5 = x := ⟨_, rfl⟩
          rw [hx] at hc HE
          clear hx
          obtain ⟨p0, p1, p2, p3, p4⟩ := hc
          obtain ⟨e0, e1, e2, e3, e4⟩ := x
          dsimp only at p0 p1 p2 p3 p4
          have hb3 := (Below.refl wr.heap.size wr).alloc (Nat.le_refl _) (.cells #[.int .i64 e0, .int .i64 e1, .int .u64 e2, .int .u64 e3, .int .i64 e4] 36)
          have HS3 := Lib.hid (HS2.out.below hb3)
          have HB3 := Lib.hid (HB2.out.trans (hb3.mono hbs2))
          clear hb hb3 HS2
          by_cases h3 : e0 = 3
          · subst h3
            have HE2 : Hid (addFs n out (f0.take (t + 1)) = addI n (addFs n out (f0.take t)) e4) := Lib.hid (by rw [HE.out]; rfl)
            have HA := Lib.hid (HADD.out _ v e4 _ HS3.out (by rw [size_al]; omega))
            clear HE
            go_wp2_with fail
            refine HA.out.mono ?_
            rintro e w1 ⟨v1, rfl, hs1, hb1⟩
            have HS1 := Lib.hid hs1
            have HB1 := Lib.hid (HB3.out.trans hb1)
            clear hs1
            go_wp2
            go_roundw
            case rel => exact ⟨t + 1, v1, by omega, by go_num, by rw [HE2.out]; exact HS1.out, HB1.out⟩
            case measure => simp [intOf]; omega
          · have HE2 : Hid (addFs n out (f0.take (t + 1)) = addFs n out (f0.take t)) := Lib.hid (by rw [HE.out]; unfold addF; rw [if_neg h3])
            have e5 : (e0 == 3) = false := by rw [beq_eq_false_iff_ne]; exact h3
            clear HE h3
            go_wp2
            go_roundw
            case rel => exact ⟨t + 1, v, by omega, by go_num, by rw [HE2.out]; exact HS3.out, HB3.out⟩
            case measure => simp [intOf]; omega
        · obtain rfl : t = f0.length := by omega
          have HS3 := Lib.hid HS2.out
          rw [List.take_length] at HS3
          have hlen := (pre_addFs n f0 out).length_le
          have HF3 : Hid (bfs g (n + 1 - (k + 1)) (k + 1) (addFs n out f0) = F) := Lib.hid (by have := HST.out; rw [HLen.out] at this; exact this.symm)
          clear HS2
          go_wp2
          go_step3
          try simp only [Exit.then]
          refine ⟨rfl, ⟨_, k + 1, v, by omega, HF3.out, HS3.out, HB2.out, _, _, _, _, _, _, _, _, _, _, _, _, _, _, _, _, _, _, _, _, _, _, _, _, _, _, _, _, _, _, _, _, _, _, _, _, _, _, _, _, _, _, _, _, _, _, _, _, _, _, rfl⟩, ?_⟩
          simp [mu, intOf]; omega
    · obtain rfl : k = out.length := by omega
      have e := bfs_done (g := g) (Nat.le_refl out.length) (g.ns.length + 1 - out.length)
      rw [HFF.out] at e
      rw [e]
      have HO := Lib.hid HS.out.own
      clear e hrd HFF
      go_wp2
      simp only [Exit.jump]
      go_ret
      exact ⟨_, rfl, HO.out, HB.out⟩
  · intro hp
    go_wp2
    go_loopw [20] (fun i wr => ∃ (t : Nat) (v : Value), t ≤ l.length ∧ i = .int .i64 (t : Int) ∧ WS wr w.heap.size w.heap.size (w.heap.size + 1 + 1) (w.heap.size + 1 + 1 + 1) (w.heap.size + 1) n (.slice AN n cN) (.slice AR nR cR) (.slice AW nW cW) (adds n [] (l.take t)) v ∧ Below w.heap.size w wr) (fun i _ => l.length - (intOf i).toNat)
    case atStart => exact ⟨0, _, Nat.zero_le _, rfl, start w n _ _ _, ((((Below.refl _ _).alloc (Nat.le_refl _) _).alloc (by simp) _).alloc (by simp; omega) _).alloc (by simp; omega) _⟩
    case round =>
      obtain ⟨t, v, ht, rfl, hs, hb⟩ := hrel
      have HS := Lib.hid hs
      have HB := Lib.hid hb
      have hbs := hb.size
      clear hs
      by_cases hlt : t < l.length
      · obtain ⟨ad, rfl, hc⟩ := (HL.out.below hb.block) t hlt
        have HE : Hid (adds n [] (l.take (t + 1)) = addI n (adds n [] (l.take t)) (l.getD t 0)) := Lib.hid (by rw [take_snoc l 0 t hlt, adds_snoc])
        obtain ⟨x, hx⟩ : ∃ x, l.getD t 0 = x := ⟨_, rfl⟩
        rw [hx] at hc HE
        have HA := Lib.hid (HADD.out _ v x wr HS.out hbs)
        clear hx hb
        go_wp2_with fail
        refine HA.out.mono ?_
        rintro e w1 ⟨v1, rfl, hs1, hb1⟩
        have HS1 := Lib.hid hs1
        have HB1 := Lib.hid (HB.out.trans hb1)
        clear hs1
        go_wp2
        go_roundw
        case rel => exact ⟨t + 1, v1, by omega, by go_num, by rw [HE.out]; exact HS1.out, HB1.out⟩
        case measure => simp [intOf]; omega
      · obtain rfl : t = l.length := by omega
        have HS1 := Lib.hid HS.out
        rw [List.take_length] at HS1
        have HF2 : Hid (bfs g (n + 1) 0 (adds n [] l) = F) := Lib.hid (by rw [← HLen.out]; exact HF.out)
        clear HS
        go_wp2
        go_step3
        rename_i K hK
        refine hK _ _ (hp _ _ ⟨_, 0, v, Nat.zero_le _, HF2.out, HS1.out, HB.out, ?_⟩)
        exact ⟨_, _, _, _, _, _, _, _, _, _, _, _, _, _, _, _, _, _, _, _, _, _, _, _, _, _, _, _, _, _, _, _, _, _, _, _, _, _, _, _, _, _, _, _, _, _, _, _, _, _, rfl⟩
end Go.Proofs.YtdgclpgjoanimaaDoor.Wk
