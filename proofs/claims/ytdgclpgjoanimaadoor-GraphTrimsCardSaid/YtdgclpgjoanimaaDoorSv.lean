/- The reference's comparisons, of what is the same. -/
import Derived.Test.YtdgclpgjoanimaaDoorAl
import Derived.Deep.RegionHeld3
import Derived.Deep.DeepMust
namespace Go.Proofs.YtdgclpgjoanimaaDoor.Sv
open Go.RowKit Go.ChangeShapes Go.WideShapes Go.Proofs.YtdgclpgjoanimaaDoorW.PrintWords Go.Proofs.YtdgclpgjoanimaaDoor.Ba Go.Proofs.YtdgclpgjoanimaaDoor.Ma Go.Proofs.YtdgclpgjoanimaaDoor.Mb Go.Proofs.YtdgclpgjoanimaaDoor.Pu Go.Proofs.YtdgclpgjoanimaaDoor.Wa Go.Proofs.YtdgclpgjoanimaaDoor.To Go.Proofs.YtdgclpgjoanimaaDoor.Tr
set_option linter.unusedVariables false
theorem sames_any (A B : Option Addr) (c d : Nat) (l : List Int) (w : World) (hl : l.length ≤ 100000) (hA : Rd w A l) (hB : Rd w B l) :
    Calls Tryd.prog 33 #[.slice A l.length c, .slice B l.length d] w (BoolPost true w) := by
  have HA := Lib.hid hA
  have HB := Lib.hid hB
  clear hA hB
  have cne : ∀ z : Int, (z != z) = false := fun z => by rw [bne_eq_false_iff_eq]
  go_enter Tryd.func33, Tryd.ntmps33
  go_wp2
  go_loopw [13] (fun i wr => ∃ k : Nat, k ≤ l.length ∧ i = .int .i64 (k : Int) ∧ wr.heap = w.heap ∧ Below w.heap.size w wr) (fun i _ => l.length - (intOf i).toNat)
  case atStart => exact ⟨0, by omega, rfl, rfl, Below.refl _ _⟩
  case round =>
    obtain ⟨k, hk, rfl, hh, hb⟩ := hrel
    by_cases hlt : k < l.length
    · obtain ⟨ad, rfl, hc⟩ := HA.out k hlt
      obtain ⟨ae, rfl, hd⟩ := HB.out k hlt
      rw [← cell_heap hh] at hc hd
      generalize l.getD k 0 = z at hc hd
      have HH := Lib.hid hh
      clear hh
      go_wp2
      go_region
      go_wp2
      go_roundw
      case rel => exact ⟨k + 1, by omega, by go_num, HH.out, hb.drew⟩
      case measure => simp [intOf]; omega
    · obtain rfl : k = l.length := by omega
      go_wp2
      go_ret
      exact ⟨rfl, hb⟩
def kd03 (v : V5) : Prop := v.kd = 0 ∨ v.kd = 1 ∨ v.kd = 2 ∨ v.kd = 3
set_option maxHeartbeats 4000000 in
theorem sv_any (x : V5) (w : World) (hx : kd03 x) : Calls Tryd.prog 47 #[agg5 x, agg5 x] w (BoolPost true w) := by
  obtain ⟨a0, a1, a2, a3, a4⟩ := x
  unfold agg5
  unfold kd03 at hx
  dsimp only at hx ⊢
  have cne : ∀ z : Int, (z != z) = false := fun z => by rw [bne_eq_false_iff_eq]
  have HB := Lib.hid (((Below.refl w.heap.size w).alloc (Nat.le_refl _) (.cells #[.int .i64 a0, .int .i64 a1, .int .u64 a2, .int .u64 a3, .int .i64 a4] 36)).alloc (by simp) (.cells #[.int .i64 a0, .int .i64 a1, .int .u64 a2, .int .u64 a3, .int .i64 a4] 36))
  rcases hx with rfl | rfl | rfl | rfl
  all_goals
    go_enter Tryd.func47, Tryd.ntmps47
    go_wp2
    go_ret
    exact ⟨rfl, HB.out⟩
set_option maxHeartbeats 4000000 in
theorem svs_any (A B : Option Addr) (c d : Nat) (l : List V5) (w : World) (hl : l.length ≤ 100000) (hA : Fv w A l) (hB : Fv w B l) (hk : ∀ v ∈ l, kd03 v) :
    Calls Tryd.prog 34 #[.slice A l.length c, .slice B l.length d] w (BoolPost true w) := by
  have HA := Lib.hid hA
  have HB := Lib.hid hB
  have HK := Lib.hid hk
  clear hA hB hk
  have n1 : ((l.length : Int) != (l.length : Int)) = false := by rw [bne_eq_false_iff_eq]
  go_enter Tryd.func34, Tryd.ntmps34
  go_wp2
  go_loopw [13] (fun i wr => ∃ k : Nat, k ≤ l.length ∧ i = .int .i64 (k : Int) ∧ Below w.heap.size w wr) (fun i _ => l.length - (intOf i).toNat)
  case atStart => exact ⟨0, by omega, rfl, Below.refl _ _⟩
  case round =>
    obtain ⟨k, hk, rfl, hb⟩ := hrel
    by_cases hlt : k < l.length
    · obtain ⟨ad, rfl, hc⟩ := (HA.out.old hb.block) k hlt
      obtain ⟨ae, rfl, hd⟩ := (HB.out.old hb.block) k hlt
      have hkd := HK.out _ (mem_getD (d := z5) hlt)
      obtain ⟨x, hx⟩ : ∃ x, l.getD k z5 = x := ⟨_, rfl⟩
      rw [hx] at hc hd hkd
      have HSV := Lib.hid (sv_any x wr.drew hkd)
      have HBW := Lib.hid (hb.drew)
      obtain ⟨a0, a1, a2, a3, a4⟩ := x
      unfold agg5 at HSV
      obtain ⟨q0, q1, q2, q3, q4⟩ := hc
      obtain ⟨p0, p1, p2, p3, p4⟩ := hd
      dsimp only at q0 q1 q2 q3 q4 p0 p1 p2 p3 p4 HSV
      clear hx hkd hb
      go_wp2
      go_region_law (first | (go_simp; go_at_call 47; refine HSV.out.mono ?_; rintro e w6 ⟨rfl, hb6⟩))
      all_goals
        have HBF := Lib.hid (HBW.out.trans (hb6.mono HBW.out.size))
        clear hb6
        go_wp2
        go_roundw
        case rel => exact ⟨k + 1, by omega, by go_num, HBF.out⟩
        case measure => simp [intOf]; omega
    · obtain rfl : k = l.length := by omega
      go_wp2
      go_ret
      exact ⟨rfl, hb⟩
set_option maxHeartbeats 8000000 in
set_option maxRecDepth 100000 in
theorem same_graph (va vb : Value) (g : G3) (w : World) (ha : GAt w va g) (hb : GAt w vb g) (hn : g.ns.length ≤ 4096) (hz : Sz g) (hk : ∀ x ∈ g.ns, ∀ v ∈ x.fs, kd03 v) : Calls Tryd.prog 13 #[va, vb] w (BoolPost true w) := by
  obtain ⟨AN, cN, AR, cR, AW, cW, rfl, _, _, _, aN, aR, aW⟩ := ha
  obtain ⟨BN, dN, BR, dR, BW, dW, rfl, _, _, _, bN, bR, bW⟩ := hb
  have HAN := Lib.hid aN
  have HBN := Lib.hid bN
  have HK := Lib.hid hk
  have HZ := Lib.hid hz.f
  have z1 := hz.r
  have z2 := hz.s
  obtain ⟨w0, hw0⟩ : ∃ w0, (w.alloc (.cells #[.slice AN g.ns.length cN, .slice AR g.rs.length cR, .slice AW g.ws.length cW] 25)).alloc (.cells #[.slice BN g.ns.length dN, .slice BR g.rs.length dR, .slice BW g.ws.length dW] 25) = w0 := ⟨_, rfl⟩
  have HB0 : Hid (Below w.heap.size w w0) := Lib.hid (by rw [← hw0]; exact ((Below.refl _ _).alloc (Nat.le_refl _) _).alloc (by simp) _)
  have hs0 : w0.heap.size = w.heap.size + 1 + 1 := by rw [← hw0, size_al, size_al]
  have HS0 := Lib.hid hs0
  have HXA : Hid (w0.heap[w.heap.size]? = some (.cells #[.slice AN g.ns.length cN, .slice AR g.rs.length cR, .slice AW g.ws.length cW] 25 (0, 0))) := Lib.hid (by
    rw [← hw0]
    exact (((Below.refl (w.heap.size + 1) _).alloc (by simp) _).block w.heap.size (by omega)).trans (heap_alloc_new w _))
  have HXB : Hid (w0.heap[w.heap.size + 1]? = some (.cells #[.slice BN g.ns.length dN, .slice BR g.rs.length dR, .slice BW g.ws.length dW] 25 (0, 0))) := Lib.hid (by
    rw [← hw0, ← size_al w (.cells #[.slice AN g.ns.length cN, .slice AR g.rs.length cR, .slice AW g.ws.length cW] 25)]; exact heap_alloc_new _ _)
  obtain ⟨x0, x1, x2⟩ := Bx3_one HXA.out
  obtain ⟨y0, y1, y2⟩ := Bx3_one HXB.out
  have n1 : ((g.ns.length : Int) != (g.ns.length : Int)) = false := by rw [bne_eq_false_iff_eq]
  have cne : ∀ z : Int, (z != z) = false := fun z => by rw [bne_eq_false_iff_eq]
  have HC1 := Lib.hid (sames_any AR BR cR dR g.rs w0 (by omega) (aR.below HB0.out.block) (bR.below HB0.out.block))
  have HC2 : Hid (∀ W, Below w.heap.size w W → Calls Tryd.prog 33 #[.slice AW g.ws.length cW, .slice BW g.ws.length dW] W (BoolPost true W)) := Lib.hid (fun W hW => sames_any AW BW cW dW g.ws W (by omega) (aW.below hW.block) (bW.below hW.block))
  clear aN aR aW bN bR bW hk hz hs0
  go_enter Tryd.func13, Tryd.ntmps13
  go_wp2_with fail
  refine HC1.out.mono ?_
  rintro e w1 ⟨rfl, hb1⟩
  have HB1 := Lib.hid (HB0.out.trans (hb1.mono HB0.out.size))
  have HXA1 := Lib.hid ((hb1.block _ (blt HXA.out)).trans HXA.out)
  have HXB1 := Lib.hid ((hb1.block _ (blt HXB.out)).trans HXB.out)
  obtain ⟨t0, t1, t2⟩ := Bx3_one HXA1.out
  obtain ⟨u0, u1, u2⟩ := Bx3_one HXB1.out
  clear hb1
  go_wp2_with fail
  refine (HC2.out _ HB1.out).mono ?_
  rintro e w2 ⟨rfl, hb2⟩
  have HB2 := Lib.hid (HB1.out.trans (hb2.mono HB1.out.size))
  have HXA2 := Lib.hid ((hb2.block _ (blt HXA1.out)).trans HXA1.out)
  have HXB2 := Lib.hid ((hb2.block _ (blt HXB1.out)).trans HXB1.out)
  obtain ⟨m0, m1, m2⟩ := Bx3_one HXA2.out
  clear hb2 x0 x1 x2 y0 y1 y2 t0 t1 t2 u0 u1 u2
  go_wp2
  go_loopw [33] (fun i wr => ∃ k : Nat, k ≤ g.ns.length ∧ i = .int .i64 (k : Int) ∧ Below w2.heap.size w2 wr) (fun i _ => g.ns.length - (intOf i).toNat)
  case atStart => exact ⟨0, Nat.zero_le _, rfl, Below.refl _ _⟩
  case round =>
    clear m0 m1 m2
    obtain ⟨k, hk, rfl, hb⟩ := hrel
    have HBW : Hid (Below w.heap.size w wr) := Lib.hid (HB2.out.trans (hb.mono HB2.out.size))
    have HBK := Lib.hid hb
    by_cases hlt : k < g.ns.length
    · obtain ⟨ad, rfl, q0, A7, c7, q1, _, hf⟩ := (HAN.out.old HBW.out.block) k hlt
      obtain ⟨ae, rfl, p0, B7, d7, p1, _, hg⟩ := (HBN.out.old HBW.out.block) k hlt
      have hmem := mem_getD (d := zN) hlt
      have hzl := HZ.out _ hmem
      have hkk := HK.out _ hmem
      obtain ⟨xn, hxn⟩ : ∃ x, g.ns.getD k zN = x := ⟨_, rfl⟩
      rw [hxn] at q0 q1 p0 p1 hf hg hzl hkk
      obtain ⟨a0, fs⟩ := xn
      dsimp only at q0 q1 p0 p1 hf hg hzl hkk
      have hba := (Below.refl wr.heap.size wr).alloc (Nat.le_refl _) (.cells #[.int .i64 a0, .slice A7 fs.length c7] 33)
      have hbd : Below wr.heap.size wr (wr.alloc (.cells #[.int .i64 a0, .slice A7 fs.length c7] 33)).drew := hba.drew
      have HSV := Lib.hid (svs_any A7 B7 c7 d7 fs (wr.alloc (.cells #[.int .i64 a0, .slice A7 fs.length c7] 33)).drew (by omega) (hf.old hbd.block) (hg.old hbd.block) hkk)
      have HBD := Lib.hid (HBK.out.trans (hbd.mono HBK.out.size))
      have hxx : (wr.alloc (.cells #[.int .i64 a0, .slice A7 fs.length c7] 33)).drew.heap[wr.heap.size]? = some (.cells #[.int .i64 a0, .slice A7 fs.length c7] 33 (0, 0)) := heap_alloc_new wr _
      obtain ⟨s0, s1⟩ := two_cells hxx
      have hyy : (wr.alloc (.cells #[.int .i64 a0, .slice A7 fs.length c7] 33)).drew.heap[w.heap.size + 1]? = _ := (hbd.block _ (by have := blt HXB2.out; have := hb.size; omega)).trans ((hb.block _ (blt HXB2.out)).trans HXB2.out)
      obtain ⟨v0, _, _⟩ := Bx3_one hyy
      have p0 := cell_old p0 hbd.block
      have p1 := cell_old p1 hbd.block
      have i0 : (0 : Int) ≤ (k : Int) := by omega
      have i1 : (k : Int) < (g.ns.length : Int) := by omega
      clear hf hg hba hbd hxx hyy hkk hmem hxn hb
      go_wp2
      go_region_held3 (fun w' => w'.cell? ⟨wr.heap.size, 0, none⟩ = some (.int .i64 a0) ∧ w'.cell? ⟨wr.heap.size, 1, none⟩ = some (.slice A7 fs.length c7) ∧ w'.cell? ⟨w.heap.size + 1, 0, none⟩ = some (.slice (some ae) g.ns.length dN) ∧ w'.cell? (ae.add (k * 2)) = some (.int .i64 a0) ∧ w'.cell? ⟨(ae.add (k * 2)).block, (ae.add (k * 2)).off + 1, none⟩ = some (.slice B7 fs.length d7))
        (first | (refine ⟨?_, ?_, ?_, ?_, ?_⟩ <;> assumption) | go_keep)
        (first | (go_at_call 34; go_must (refine HSV.out.mono ?_; rintro e w6 ⟨rfl, hb6⟩; have s0 := cell_old s0 hb6.block; have s1 := cell_old s1 hb6.block; have v0 := cell_old v0 hb6.block; have p0 := cell_old p0 hb6.block; have p1 := cell_old p1 hb6.block)))
      all_goals
        have HBF := Lib.hid (HBD.out.trans (hb6.mono HBD.out.size))
        clear hb6
        go_wp2
        go_roundw
        case rel => exact ⟨k + 1, by omega, by go_num, HBF.out⟩
        case measure => simp [intOf]; omega
    · obtain rfl : k = g.ns.length := by omega
      go_wp2
      go_ret
      exact ⟨rfl, HBW.out⟩
end Go.Proofs.YtdgclpgjoanimaaDoor.Sv
