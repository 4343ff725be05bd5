/- The walk of a graph: the reference's. -/
import Derived.Test.YtdgclpgjoanimaaDoorWa
namespace Go.Proofs.YtdgclpgjoanimaaDoor.Ro
open Go.RowKit Go.ChangeShapes Go.WideShapes Go.Proofs.YtdgclpgjoanimaaDoorW.PrintWords Go.Proofs.YtdgclpgjoanimaaDoor.Ba Go.Proofs.YtdgclpgjoanimaaDoor.Ma Go.Proofs.YtdgclpgjoanimaaDoor.Mb Go.Proofs.YtdgclpgjoanimaaDoor.Pu Go.Proofs.YtdgclpgjoanimaaDoor.Wa
set_option linter.unusedVariables false
def seenF (out : List Int) (j : Nat) : Value := .bool (decide ((j : Int) ∈ out))
/-- The reference's state: the row and what is seen. -/
structure RS (w : World) (B r m n : Nat) (out : List Int) (v : Value) : Prop where
  hr : w.heap[r]? = some (.cells #[v, .slice (some ⟨m, 0, none⟩) n n] 70 (0, 0))
  row : w.rowIs m 4 n (seenF out)
  own : w.ownsRow B 3 1 v out.length (out.map (Value.int .i64))
  gd : Gd n out
  lm : B ≤ m
  lr : B ≤ r
theorem RS.below {w w' : World} {B r m n : Nat} {v : Value} {out : List Int} (h : RS w B r m n out v) (hb : Below w.heap.size w w') : RS w' B r m n out v :=
  ⟨(hb.block _ (blt h.hr)).trans h.hr, h.row.of_block (hb.block _ h.row.lt), own_move h.own fun k hk => hb.block k (h.own.lt k hk).2, h.gd, h.lm, h.lr⟩
def PutPost (w : World) (B r m n : Nat) (out : List Int) (e : Ending) (w' : World) : Prop :=
  ∃ v', e = .returned (.tuple #[]) ∧ RS w' B r m n out v' ∧ Below B w w'
set_option maxHeartbeats 4000000 in
theorem put_any (B r m n : Nat) (out : List Int) (v : Value) (x : Int) (w : World) (h : RS w B r m n out v) (hB : B ≤ w.heap.size) (hn : n ≤ 100000) :
    Calls Tryd.prog 48 #[.pointer (some ⟨r, 0, none⟩), .int .i64 x] w (PutPost w B r m n (addI n out x)) := by
  obtain ⟨q0, q1⟩ := two_cells h.hr
  have H := Lib.hid h
  have hl := gd_le h.gd
  obtain ⟨_, A5, c5, rfl, _⟩ := own_rd h.own
  clear h
  by_cases h0 : 0 ≤ x
  · by_cases h1 : x < (n : Int)
    · have ei := isB_iff.2 ⟨h0, h1⟩
      obtain ⟨k, rfl⟩ : ∃ k : Nat, x = (k : Int) := ⟨x.toNat, by omega⟩
      have hk : k < n := by omega
      have c1 : w.cell? ⟨m, k, none⟩ = some (.bool (decide ((k : Int) ∈ out))) := H.out.row.cell hk
      by_cases hm : (k : Int) ∈ out
      · have e : addI n out k = out := by unfold addI; rw [if_neg (fun h => h.2 hm)]
        rw [e]
        rw [decide_eq_true hm] at c1
        clear e ei hm
        go_enter Tryd.func48, Tryd.ntmps48
        go_wp2
        go_end0
        exact ⟨_, rfl, H.out, Below.refl _ _⟩
      · have HE : Hid (addI n out k = out ++ [(k : Int)]) := Lib.hid (by unfold addI; rw [if_pos ⟨ei, hm⟩])
        have HG : Hid (Gd n (addI n out k)) := Lib.hid (gd_addI H.out.gd _)
        rw [HE.out] at HG ⊢
        rw [decide_eq_false hm] at c1
        have f1 := H.out.row.frozen k
        obtain ⟨w2, hw2⟩ : ∃ w2, w.setCell ⟨m, k, none⟩ (.bool true) = w2 := ⟨_, rfl⟩
        have hg2 : w.grownBy w2 (some m) := by rw [← hw2]; exact grown_set _ _ _ _
        have hmr := rowIs_ty H.out.row H.out.hr (by decide)
        have hmo : (Value.slice A5 out.length c5).ownBlock ≠ some m := by
          obtain ⟨cc, hcc, _⟩ := H.out.row
          exact own_ty H.out.own hcc (by decide)
        have hB2 : Below B w w2 := ⟨hg2.os, hg2.tape, hg2.output, hg2.size, fun j hj => hg2.block j (by omega) (fun e => by injection e with e; have := H.out.lm; omega)⟩
        have hr2 := (hg2.block r (blt H.out.hr) (fun e => hmr (by injection e with e; exact e.symm))).trans H.out.hr
        have row2 : w2.rowIs m 4 n (seenF (out ++ [(k : Int)])) := by
          rw [← hw2]
          refine (H.out.row.set k _).congr fun i hi => ?_
          unfold seenF
          by_cases hik : i = k
          · subst hik; simp
          · rw [if_neg hik]
            have : ((i : Int) ∈ out ++ [(k : Int)]) ↔ (i : Int) ∈ out := by
              simp only [List.mem_append, List.mem_singleton]
              constructor
              · rintro (h | h)
                · exact h
                · exact absurd (by omega) hik
              · exact .inl
            simp only [this]
        have own2 : w2.ownsRow B 3 1 (.slice A5 out.length c5) out.length (out.map (Value.int .i64)) := own_move H.out.own fun j hj => hg2.block j (H.out.own.lt j hj).2 (fun e => hmo (by rw [hj, e]))
        obtain ⟨p0, p1⟩ := two_cells hr2
        have f0 := blk_frozen hr2 0
        have hs2 := hg2.size
        have HB2 := Lib.hid hB2
        have HR2 := Lib.hid hr2
        have ROW2 := Lib.hid row2
        have OWN2 := Lib.hid own2
        have HNE := Lib.hid hmo
        have HMR := Lib.hid hmr
        have HLM := Lib.hid H.out.lm
        have HLR := Lib.hid H.out.lr
        have HRL := Lib.hid (blt hr2)
        have HML := Lib.hid row2.lt
        clear ei hm hg2 hB2 hr2 row2 own2 hmr hmo H
        have HR1 := Lib.hid (one_row w2 (k : Int))
        go_enter Tryd.func48, Tryd.ntmps48
        go_wp2_with (at_builtin; refine print_append_row_of (P := Tryd.prog) (w0 := w2) (W := w2.alloc (.cells #[.int .i64 (k : Int)] 3)) (Value.int .i64) 0 B rfl (.tmp 35) (.tmp 37) 23 3 (.int .i64 0) 8 rfl Tryd.underlying23 info3 rfl (by decide) (fun _ => rfl) _ out [(k : Int)] _ 1 1 rfl rfl (OWN2.out.alloc _) HR1.out ((Below.refl B w2).alloc (by omega) _) (by rw [size_al]; omega) ?c1 ?_)
        case c1 => omega
        intro v3 w3 ho3 hb3 hg3 hat3
        have HO3 : Hid (w3.ownsRow B 3 1 v3 (out ++ [(k : Int)]).length ((out ++ [(k : Int)]).map (Value.int .i64))) := Lib.hid (by rw [List.length_append]; exact ho3)
        have HB3 : Hid (Below B w2 w3) := Lib.hid hb3
        have HG3 : Hid (w2.grownBy w3 (Value.slice A5 out.length c5).ownBlock) := Lib.hid (World.grownBy.trans (World.grownBy_alloc _ _ _) hg3)
        obtain ⟨A6, c6, rfl⟩ : ∃ A c, v3 = .slice A (out.length + 1) c := by
          obtain ⟨_, A, c, e, _⟩ := own_rd HO3.out
          exact ⟨A, c, by rw [e, List.length_append]; rfl⟩
        have hr4 : w3.heap[r]? = some (.cells #[.slice A5 out.length c5, .slice (some ⟨m, 0, none⟩) n n] 70 (0, 0)) := (HG3.out.block r HRL.out (fun e => own_ty OWN2.out HR2.out (by decide) e.symm)).trans HR2.out
        obtain ⟨c4, _⟩ := two_cells hr4
        have f4 := blk_frozen hr4 0
        have HR4 := Lib.hid hr4
        have ROW4 := Lib.hid (ROW2.out.of_block (HG3.out.block m HML.out (fun e => HNE.out e.symm)))
        obtain ⟨w5, hw5⟩ : ∃ w5, w3.setCell ⟨r, 0, none⟩ (.slice A6 (out.length + 1) c6) = w5 := ⟨_, rfl⟩
        have HG5 : Hid (w3.grownBy w5 (some r)) := Lib.hid (by rw [← hw5]; exact grown_set _ _ _ _)
        have HR5 : Hid (w5.heap[r]? = some (.cells #[.slice A6 (out.length + 1) c6, .slice (some ⟨m, 0, none⟩) n n] 70 (0, 0))) := Lib.hid (by rw [← hw5]; exact blk_set HR4.out 0 _)
        have HWS : Hid (RS w5 B r m n (out ++ [(k : Int)]) (.slice A6 (out.length + 1) c6)) := Lib.hid
          ⟨HR5.out, ROW4.out.of_block (HG5.out.block m ROW4.out.lt (fun e => HMR.out (by injection e with e))), own_move HO3.out (fun j hj => HG5.out.block j (HO3.out.lt j hj).2 (fun e => own_ty HO3.out HR4.out (by decide) (by rw [hj, e]))), HG.out, HLM.out, HLR.out⟩
        have HB5 : Hid (Below B w w5) := Lib.hid (((HB2.out.trans HB3.out)).trans ⟨HG5.out.os, HG5.out.tape, HG5.out.output, HG5.out.size, fun j hj => HG5.out.block j (by have := HB3.out.size; have := hs2; omega) (fun e => by injection e with e; have := HLR.out; omega)⟩)
        clear ho3 hb3 hg3 hat3 hr4 ROW4 HR5 HG5
        go_wp2
        go_end0
        exact ⟨_, rfl, HWS.out, HB5.out⟩
    · have ei : isB n x = false := by simp [isB, h1]
      have e : addI n out x = out := by unfold addI; rw [if_neg (by rw [ei]; simp)]
      rw [e]
      clear e ei
      go_enter Tryd.func48, Tryd.ntmps48
      go_wp2
      go_end0
      exact ⟨_, rfl, H.out, Below.refl _ _⟩
  · have ei : isB n x = false := by simp [isB, h0]
    have e : addI n out x = out := by unfold addI; rw [if_neg (by rw [ei]; simp)]
    rw [e]
    clear e ei
    go_enter Tryd.func48, Tryd.ntmps48
    go_wp2
    go_end0
    exact ⟨_, rfl, H.out, Below.refl _ _⟩
theorem start (w : World) (n : Nat) (s0 s1 s2 : Value) : RS (((w.alloc (.cells #[s0, s1, s2] 25)).alloc (.cells (madeCells #[.bool false] n) 4)).alloc (.cells #[.slice none 0 0, .slice (some ⟨w.heap.size + 1, 0, none⟩) n n] 70))
    (w.heap.size + 1) (w.heap.size + 1 + 1) (w.heap.size + 1) n [] (.slice none 0 0) := by
  obtain ⟨w1, h1⟩ : ∃ w1, w.alloc (.cells #[s0, s1, s2] 25) = w1 := ⟨_, rfl⟩
  have z1 : w1.heap.size = w.heap.size + 1 := by rw [← h1, size_al]
  rw [h1]
  obtain ⟨w2, h2⟩ : ∃ w2, w1.alloc (.cells (madeCells #[.bool false] n) 4) = w2 := ⟨_, rfl⟩
  have z2 : w2.heap.size = w.heap.size + 1 + 1 := by rw [← h2, size_al, z1]
  have a2 : w2.rowIs (w.heap.size + 1) 4 n (seenF []) := by
    rw [← h2, ← z1]
    exact (World.rowIs_made w1 (.bool false) n 4).congr fun i hi => by simp [seenF]
  rw [h2]
  obtain ⟨w3, h3⟩ : ∃ w3, w2.alloc (.cells #[.slice none 0 0, .slice (some ⟨w.heap.size + 1, 0, none⟩) n n] 70) = w3 := ⟨_, rfl⟩
  have b3 : Below w2.heap.size w2 w3 := by rw [← h3]; exact (Below.refl _ _).alloc (Nat.le_refl _) _
  have a3 : w3.heap[w.heap.size + 1 + 1]? = some (.cells #[.slice none 0 0, .slice (some ⟨w.heap.size + 1, 0, none⟩) n n] 70 (0, 0)) := by rw [← h3, ← z2]; exact heap_alloc_new w2 _
  rw [h3]
  exact ⟨a3, a2.of_block (b3.block _ (by omega)), own_nil _ _ _, gd_nil n, by omega, by omega⟩
theorem info4 : (Tryd.prog.info? 4).map (fun i => (i.zero, i.size, i.bytes)) = some (some (.bool false), 1, 1) := by kernel_rfl
set_option maxHeartbeats 8000000 in
set_option maxRecDepth 20000 in
theorem order_any (v : Value) (g : G3) (A : Option Addr) (c : Nat) (l : List Int) (w : World) (h : GAt w v g) (hz : Sz g) (hn : g.ns.length ≤ 4096) (hl : Rd w A l) (hll : l.length ≤ 10000) :
    Calls Tryd.prog 36 #[v, .slice A l.length c] w (Own w (walkL g l)) := by
  obtain ⟨AN, cN, AR, cR, AW, cW, rfl, _, _, _, hN, hR, hW⟩ := h
  have HZ := Lib.hid hz.f
  have HN := Lib.hid hN
  have HL := Lib.hid hl
  have hF : ∃ F, walkL g l = F := ⟨_, rfl⟩
  obtain ⟨F, hF⟩ := hF
  have HF := Lib.hid hF
  rw [hF]
  obtain ⟨n, hn'⟩ : ∃ n, g.ns.length = n := ⟨_, rfl⟩
  have HLen := Lib.hid hn'
  obtain ⟨nR, hR'⟩ : ∃ n, g.rs.length = n := ⟨_, rfl⟩
  obtain ⟨nW, hW'⟩ : ∃ n, g.ws.length = n := ⟨_, rfl⟩
  have hmk := print_make_of (P := Tryd.prog) 68 4 (.bool false) 1 Tryd.underlying68 info4 rfl (by decide) n (by omega)
  have hzr : ∀ W : World, (zeroValue 70).run Tryd.prog W = .ok (.agg #[.slice none 0 0, .slice none 0 0]) W := fun W => by kernel_rfl
  have hzi : (Tryd.prog.info? 70).map (fun i => (i.zero, i.size)) = some (some (.agg #[.slice none 0 0, .slice none 0 0]), 2) := by kernel_rfl
  have HADD : ∀ (out : List Int) (v : Value) (x : Int) (w1 : World), RS w1 (w.heap.size + 1) (w.heap.size + 1 + 1) (w.heap.size + 1) n out v → w.heap.size + 1 ≤ w1.heap.size → _ :=
    fun out v x w1 h hB => put_any (w.heap.size + 1) (w.heap.size + 1 + 1) (w.heap.size + 1) n out v x w1 h hB (by omega)
  have HADD := Lib.hid HADD
  rw [hn', hR', hW']
  rw [hn'] at hn
  have HS0 := Lib.hid (start w n (.slice AN n cN) (.slice AR nR cR) (.slice AW nW cW))
  clear hN hR hW hl hF hn' hR' hW'
  go_enter Tryd.func36, Tryd.ntmps36
  go_wp2
  go_loopw [19] (fun i wr => ∃ (t : Nat) (v : Value), t ≤ l.length ∧ i = .int .i64 (t : Int) ∧ RS wr (w.heap.size + 1) (w.heap.size + 1 + 1) (w.heap.size + 1) n (adds n [] (l.take t)) v ∧ Below w.heap.size w wr ∧ Bx3 wr w.heap.size AN n cN AR nR cR AW nW cW ∧ w.heap.size + 1 ≤ wr.heap.size) (fun i _ => l.length - (intOf i).toNat)
  case atStart =>
    refine ⟨0, _, Nat.zero_le _, rfl, HS0.out, ((((Below.refl _ _).alloc (Nat.le_refl _) _).alloc (by simp) _).alloc (by first | (simp; done) | (simp; omega)) _), ?_, by first | (simp; done) | (simp; omega)⟩
    refine (((Below.refl (w.heap.size + 1) _).alloc (by simp) _).alloc (by simp) _).block w.heap.size (by omega) |>.trans (heap_alloc_new w _)
  case round =>
    obtain ⟨t, v, ht, rfl, hs, hb, hx, hsz⟩ := hrel
    have HS := Lib.hid hs
    have HB := Lib.hid hb
    have HX := Lib.hid hx
    have hbs := hb.size
    clear hs hx
    by_cases hlt : t < l.length
    · obtain ⟨ad, rfl, hc⟩ := (HL.out.below hb.block) t hlt
      have HE : Hid (adds n [] (l.take (t + 1)) = addI n (adds n [] (l.take t)) (l.getD t 0)) := Lib.hid (by rw [take_snoc l 0 t hlt, adds_snoc])
      obtain ⟨x, hx⟩ : ∃ x, l.getD t 0 = x := ⟨_, rfl⟩
      rw [hx] at hc HE
      have HA := Lib.hid (HADD.out _ v x wr HS.out hsz)
      clear hx hb
      go_wp2_with fail
      refine HA.out.mono ?_
      rintro e w1 ⟨v1, rfl, hs1, hb1⟩
      have HS1 := Lib.hid hs1
      have HB1 := Lib.hid (HB.out.trans (hb1.mono (by omega)))
      have HX1 : Hid (Bx3 w1 w.heap.size AN n cN AR nR cR AW nW cW) := Lib.hid ((hb1.block _ (by omega)).trans HX.out)
      have hsz1 := hb1.size
      clear hs1
      go_wp2
      go_roundw
      case rel => exact ⟨t + 1, v1, by omega, by go_num, by rw [HE.out]; exact HS1.out, HB1.out, HX1.out, by omega⟩
      case measure => simp [intOf]; omega
    · obtain rfl : t = l.length := by omega
      have HS1 := Lib.hid HS.out
      rw [List.take_length] at HS1
      have HF2 : Hid (bfs g (n + 1) 0 (adds n [] l) = F) := Lib.hid (by rw [← HLen.out]; exact HF.out)
      clear HS
      go_wp2
      go_loopw [8] (fun i wr => ∃ (k : Nat) (out : List Int) (v : Value), k ≤ out.length ∧ i = .int .i64 (k : Int) ∧ bfs g (n + 1 - k) k out = F ∧ RS wr (w.heap.size + 1) (w.heap.size + 1 + 1) (w.heap.size + 1) n out v ∧ Below w.heap.size w wr ∧ Bx3 wr w.heap.size AN n cN AR nR cR AW nW cW ∧ w.heap.size + 1 ≤ wr.heap.size) (fun i _ => n + 1 - (intOf i).toNat)
      case atStart => exact ⟨0, _, v, Nat.zero_le _, rfl, HF2.out, HS1.out, HB.out, HX.out, hsz⟩
      case round =>
        clear HF HF2 HS1 HB HX hb hsz hbs
        obtain ⟨k, out, v, hk, rfl, hf, hs, hb, hx, hsz⟩ := hrel
        rw [← HLen.out] at hf
        have HS := Lib.hid hs
        have HB := Lib.hid hb
        have HX := Lib.hid hx
        have HFF := Lib.hid hf
        have hle := gd_le hs.gd
        have hbs := hb.size
        obtain ⟨q0, q1, q2⟩ := Bx3.cells hx
        obtain ⟨q4, q5⟩ := two_cells hs.hr
        obtain ⟨_, A5, c5, rfl, hrd⟩ := own_rd hs.own
        clear hf hs hx
        by_cases hlt : k < out.length
        · obtain ⟨ad, rfl, hc⟩ := hrd k hlt
          have hx := HS.out.gd.2 _ (mem_getD (d := (0 : Int)) hlt)
          have hst := bfs_step (g := g) hlt (by rw [HLen.out]; exact hle)
          rw [HFF.out] at hst
          have HST := Lib.hid hst
          obtain ⟨y, hy⟩ : ∃ y, out.getD k 0 = y := ⟨_, rfl⟩
          rw [hy] at hc hx HST
          obtain ⟨hx0, hx1⟩ := isB_iff.1 hx
          obtain ⟨j, rfl⟩ : ∃ j : Nat, y = (j : Int) := ⟨y.toNat, by omega⟩
          have hj : j < g.ns.length := by rw [HLen.out]; omega
          obtain ⟨ad2, rfl, y0, A7, c7, y1, _, hfv⟩ := HN.out j hj
          have y1 := cell_old y1 hb.block
          have hzl := HZ.out _ (mem_getD (d := zN) hj)
          have HND : Hid ((nd g (j : Int)).fs = (g.ns.getD j zN).fs) := Lib.hid (by unfold nd; rw [Int.toNat_natCast])
          rw [HND.out] at HST
          obtain ⟨f0, f1⟩ : ∃ f, f = (g.ns.getD j zN).fs := ⟨_, rfl⟩
          rw [← f1] at y1 hfv hzl HST
          have HFV := Lib.hid hfv
          obtain ⟨wo, rfl⟩ : ∃ wo : World, wo = wr := ⟨_, rfl⟩
          clear hrd hst hy hx hfv f1 HND HFF hb y0
          go_wp2
          go_region
          go_wp2
          go_loopw [49] (fun i wr => ∃ (t : Nat) (v : Value), t ≤ f0.length ∧ i = .int .i64 (t : Int) ∧ RS wr (w.heap.size + 1) (w.heap.size + 1 + 1) (w.heap.size + 1) n (addFs n out (f0.take t)) v ∧ Below w.heap.size w wr ∧ Bx3 wr w.heap.size (some ad2) n cN AR nR cR AW nW cW ∧ w.heap.size + 1 ≤ wr.heap.size) (fun i _ => f0.length - (intOf i).toNat)
          case atStart => exact ⟨0, _, Nat.zero_le _, rfl, HS.out.below (Below.refl _ _).drew, HB.out.drew, HX.out, hsz⟩
          case round =>
            clear q0 q1 q2 q4 q5 y1 hc
            obtain ⟨t, v, ht, rfl, hs, hb, hx, hsz2⟩ := hrel
            have HS2 := Lib.hid hs
            have HB2 := Lib.hid hb
            have HX2 := Lib.hid hx
            have hbs2 := hb.size
            clear hs hx
            by_cases hlt2 : t < f0.length
            · obtain ⟨ad3, rfl, hc⟩ := (HFV.out.old hb.block) t hlt2
              have HE : Hid (addFs n out (f0.take (t + 1)) = addF n (addFs n out (f0.take t)) (f0.getD t z5)) := Lib.hid (by rw [take_snoc f0 z5 t hlt2, addFs_snoc])
              obtain ⟨x, hx⟩ : ∃ x, f0.getD t z5 = x := ⟨_, rfl⟩
              rw [hx] at hc HE
              clear hx
              obtain ⟨p0, p1, p2, p3, p4⟩ := hc
              obtain ⟨e0, e1, e2, e3, e4⟩ := x
              dsimp only at p0 p1 p2 p3 p4
              have hb3 := (Below.refl wr.heap.size wr).alloc (Nat.le_refl _) (.cells #[.int .i64 e0, .int .i64 e1, .int .u64 e2, .int .u64 e3, .int .i64 e4] 36)
              have HS3 := Lib.hid (HS2.out.below hb3)
              have HB3 := Lib.hid (HB2.out.trans (hb3.mono hbs2))
              have HX3 := Lib.hid (HX2.out.below hb3)
              clear hb hb3 HS2
              by_cases h3 : e0 = 3
              · subst h3
                have HE2 : Hid (addFs n out (f0.take (t + 1)) = addI n (addFs n out (f0.take t)) e4) := Lib.hid (by rw [HE.out]; rfl)
                have HA := Lib.hid (HADD.out _ v e4 _ HS3.out (by rw [size_al]; omega))
                clear HE
                go_wp2_with fail
                refine HA.out.mono ?_
                rintro e w1 ⟨v1, rfl, hs1, hb1⟩
                have HS1 := Lib.hid hs1
                have HB1 := Lib.hid (HB3.out.trans (hb1.mono (by omega)))
                have HX1 : Hid (Bx3 w1 w.heap.size (some ad2) n cN AR nR cR AW nW cW) := Lib.hid ((hb1.block _ (by omega)).trans HX3.out)
                have hsz1 := hb1.size
                rw [size_al] at hsz1
                clear hs1
                go_wp2
                go_roundw
                case rel => exact ⟨t + 1, v1, by omega, by go_num, by rw [HE2.out]; exact HS1.out, HB1.out, HX1.out, by omega⟩
                case measure => simp [intOf]; omega
              · have HE2 : Hid (addFs n out (f0.take (t + 1)) = addFs n out (f0.take t)) := Lib.hid (by rw [HE.out]; unfold addF; rw [if_neg h3])
                have e5 : (e0 == 3) = false := by rw [beq_eq_false_iff_ne]; exact h3
                clear HE h3
                go_wp2
                go_roundw
                case rel => exact ⟨t + 1, v, by omega, by go_num, by rw [HE2.out]; exact HS3.out, HB3.out, HX3.out, by rw [size_al]; omega⟩
                case measure => simp [intOf]; omega
            · obtain rfl : t = f0.length := by omega
              have HS3 := Lib.hid HS2.out
              rw [List.take_length] at HS3
              have hlen := (pre_addFs n f0 out).length_le
              have HF3 : Hid (bfs g (n + 1 - (k + 1)) (k + 1) (addFs n out f0) = F) := Lib.hid (by have := HST.out; rw [HLen.out] at this; exact this.symm)
              clear HS2
              go_wp2
              go_roundw
              case rel => exact ⟨k + 1, _, v, by omega, by go_num, HF3.out, HS3.out, HB2.out, HX2.out, hsz2⟩
              case measure => simp [intOf]; omega
        · obtain rfl : k = out.length := by omega
          have e := bfs_done (g := g) (Nat.le_refl out.length) (g.ns.length + 1 - out.length)
          rw [HFF.out] at e
          have HE := Lib.hid e
          have HO := Lib.hid (own_weaken HS.out.own (Nat.le_succ w.heap.size))
          clear e hrd HFF
          go_wp2
          go_ret
          rw [HE.out]
          exact ⟨_, rfl, HO.out, HB.out⟩
end Go.Proofs.YtdgclpgjoanimaaDoor.Ro
