/-
  The reference's comparisons, of any two trimmed graphs.
-/
import Derived.Test.YtdgclpgjoanimaaDoorSv
import Derived.Test.YtdgclpgjoanimaaDoorTi
namespace Go.Proofs.YtdgclpgjoanimaaDoor.Sg
open Go.RowKit Go.ChangeShapes Go.WideShapes Go.Proofs.YtdgclpgjoanimaaDoorW.PrintWords Go.Proofs.YtdgclpgjoanimaaDoor.Ba Go.Proofs.YtdgclpgjoanimaaDoor.Ma Go.Proofs.YtdgclpgjoanimaaDoor.Mb Go.Proofs.YtdgclpgjoanimaaDoor.Pu Go.Proofs.YtdgclpgjoanimaaDoor.Wa Go.Proofs.YtdgclpgjoanimaaDoor.To Go.Proofs.YtdgclpgjoanimaaDoor.Tr Go.Proofs.YtdgclpgjoanimaaDoor.Ti
set_option linter.unusedVariables false
set_option linter.unusedSimpArgs false
set_option maxRecDepth 100000
theorem blt {w : World} {k : Nat} {o : Obj} (h : w.heap[k]? = some o) : k < w.heap.size := (Array.getElem?_eq_some_iff.1 h).1
theorem ne_at {α : Type} [DecidableEq α] {l m : List α} {d : α} {k : Nat} (h : l.getD k d ≠ m.getD k d) : decide (l = m) = false := decide_eq_false fun e => h (by rw [e])
theorem take_both {α : Type} {l m : List α} {d : α} {k : Nat} (h : l.take k = m.take k) (h1 : k < l.length) (h2 : k < m.length) (he : l.getD k d = m.getD k d) : l.take (k + 1) = m.take (k + 1) := by
  rw [take_snoc l d k h1, take_snoc m d k h2, h, he]
theorem all_eq {α : Type} {l m : List α} (h : l.take l.length = m.take l.length) (hl : l.length = m.length) : l = m := by
  rw [List.take_length] at h
  rw [hl, List.take_length] at h
  exact h
set_option maxHeartbeats 4000000 in
theorem gi_any (A B : Option Addr) (c d : Nat) (l m : List Int) (w : World) (hl : l.length ≤ 100000) (hA : Rd w A l) (hB : Rd w B m) :
    Calls Tryd.prog 33 #[.slice A l.length c, .slice B m.length d] w (BoolPost (decide (l = m)) w) := by
  by_cases hlen : l.length = m.length
  · have HA := Lib.hid hA
    have HB := Lib.hid hB
    have HLE := Lib.hid hlen
    have HY : Hid (l.take l.length = m.take l.length → decide (l = m) = true) := Lib.hid (fun h => decide_eq_true (all_eq h hlen))
    have HN : Hid (∀ k, l.getD k 0 ≠ m.getD k 0 → decide (l = m) = false) := Lib.hid (fun k h => ne_at h)
    obtain ⟨r, hr⟩ : ∃ r, decide (l = m) = r := ⟨_, rfl⟩
    rw [hr] at HY HN ⊢
    rw [← hlen]
    clear hA hB hr hlen
    have n1 : ((l.length : Int) != (l.length : Int)) = false := by rw [bne_eq_false_iff_eq]
    go_enter Tryd.func33, Tryd.ntmps33
    go_wp2
    go_loopw [13] (fun i wr => ∃ k : Nat, k ≤ l.length ∧ i = .int .i64 (k : Int) ∧ wr.heap = w.heap ∧ l.take k = m.take k ∧ Below w.heap.size w wr) (fun i _ => l.length - (intOf i).toNat)
    case atStart => exact ⟨0, by omega, rfl, rfl, rfl, Below.refl _ _⟩
    case round =>
      obtain ⟨k, hk, rfl, hh, htk, hb⟩ := hrel
      have HTK := Lib.hid htk
      clear htk
      by_cases hlt : k < l.length
      · obtain ⟨ad, rfl, hc⟩ := HA.out k hlt
        obtain ⟨ae, rfl, hd⟩ := HB.out k (by rw [← HLE.out]; exact hlt)
        rw [← cell_heap hh] at hc hd
        have HH := Lib.hid hh
        clear hh
        by_cases hxy : l.getD k 0 = m.getD k 0
        · have HT2 := Lib.hid (take_both HTK.out hlt (by rw [← HLE.out]; exact hlt) hxy)
          rw [← hxy] at hd
          have cne : ∀ z : Int, (z != z) = false := fun z => by rw [bne_eq_false_iff_eq]
          generalize l.getD k 0 = z at hc hd
          clear hxy
          go_wp2
          go_region
          go_wp2
          go_roundw
          case rel => exact ⟨k + 1, by omega, by go_num, HH.out, HT2.out, hb.drew⟩
          case measure => simp [intOf]; omega
        · have HRR := Lib.hid (HN.out k hxy)
          obtain ⟨z1, hz1⟩ : ∃ z, l.getD k 0 = z := ⟨_, rfl⟩
          obtain ⟨z2, hz2⟩ : ∃ z, m.getD k 0 = z := ⟨_, rfl⟩
          rw [hz1, hz2] at hxy
          rw [hz1] at hc
          rw [hz2] at hd
          have cne : (z1 != z2) = true := by rw [bne_iff_ne]; exact hxy
          clear hxy hz1 hz2
          go_wp2
          go_region
          all_goals
            go_wp2
            go_ret
            rw [HRR.out]
            exact ⟨rfl, hb.drew⟩
      · obtain rfl : k = l.length := by omega
        go_wp2
        go_ret
        rw [HY.out HTK.out]
        exact ⟨rfl, hb⟩
  · have HR : Hid (decide (l = m) = false) := Lib.hid (decide_eq_false fun e => hlen (by rw [e]))
    have n1 : ((l.length : Int) != (m.length : Int)) = true := by rw [bne_iff_ne]; omega
    clear hlen
    go_enter Tryd.func33, Tryd.ntmps33
    go_wp2
    go_ret
    rw [HR.out]
    exact ⟨rfl, Below.refl _ _⟩
set_option maxHeartbeats 8000000 in
theorem gv_any (x y : V5) (w : World) (hx : Pl x) (hy : Pl y) : Calls Tryd.prog 47 #[agg5 x, agg5 y] w (BoolPost (decide (x = y)) w) := by
  obtain ⟨a0, a1, a2, a3, a4⟩ := x
  obtain ⟨b0, b1, b2, b3, b4⟩ := y
  unfold agg5
  dsimp only
  have HB := Lib.hid (((Below.refl w.heap.size w).alloc (Nat.le_refl _) (.cells #[.int .i64 a0, .int .i64 a1, .int .u64 a2, .int .u64 a3, .int .i64 a4] 36)).alloc (by simp) (.cells #[.int .i64 b0, .int .i64 b1, .int .u64 b2, .int .u64 b3, .int .i64 b4] 36))
  by_cases hk : a0 = b0
  · subst hk
    unfold Pl at hx hy
    have cne : ∀ z : Int, (z != z) = false := fun z => by rw [bne_eq_false_iff_eq]
    rcases hx with hx | ⟨hx, e1, e2, e3⟩ | ⟨hx, e1, e2⟩ | ⟨hx, e1, e2, e3⟩
    · obtain ⟨rfl, rfl, rfl, rfl, rfl⟩ := V5.mk.inj hx
      have hy0 : (⟨0, b1, b2, b3, b4⟩ : V5) = ⟨0, 0, 0, 0, 0⟩ := by
        rcases hy with hy | ⟨hy, _⟩ | ⟨hy, _⟩ | ⟨hy, _⟩
        · exact hy
        all_goals (dsimp only at hy; omega)
      have HR : Hid (decide ((⟨0, 0, 0, 0, 0⟩ : V5) = ⟨0, b1, b2, b3, b4⟩) = true) := Lib.hid (decide_eq_true hy0.symm)
      clear hx hy hy0
      go_enter Tryd.func47, Tryd.ntmps47
      go_wp2
      go_ret
      rw [HR.out]
      exact ⟨rfl, HB.out⟩
    · dsimp only at hx e1 e2 e3
      subst hx e1 e2 e3
      have hy0 : b2 = 0 ∧ b3 = 0 ∧ b4 = 0 := by
        rcases hy with hy | ⟨_, h1, h2, h3⟩ | ⟨hy, _⟩ | ⟨hy, _⟩
        · cases hy
        · exact ⟨h1, h2, h3⟩
        all_goals (dsimp only at hy; omega)
      obtain ⟨rfl, rfl, rfl⟩ := hy0
      have HR : Hid (decide ((⟨1, a1, 0, 0, 0⟩ : V5) = ⟨1, b1, 0, 0, 0⟩) = (a1 == b1)) := Lib.hid (by
        rw [Bool.eq_iff_iff, decide_eq_true_eq, beq_iff_eq]
        simp)
      clear hy
      go_enter Tryd.func47, Tryd.ntmps47
      go_wp2
      go_ret
      rw [HR.out]
      exact ⟨rfl, HB.out⟩
    · dsimp only at hx e1 e2
      subst hx e1 e2
      have hy0 : b1 = 0 ∧ b4 = 0 := by
        rcases hy with hy | ⟨hy, _⟩ | ⟨_, h1, h2⟩ | ⟨hy, _⟩
        · cases hy
        · (dsimp only at hy; omega)
        · exact ⟨h1, h2⟩
        · (dsimp only at hy; omega)
      obtain ⟨rfl, rfl⟩ := hy0
      have HR : Hid (decide ((⟨2, 0, a2, a3, 0⟩ : V5) = ⟨2, 0, b2, b3, 0⟩) = ((a2 == b2) && (a3 == b3))) := Lib.hid (by
        rw [Bool.eq_iff_iff, decide_eq_true_eq, Bool.and_eq_true, beq_iff_eq, beq_iff_eq]
        simp)
      clear hy
      cases h2 : (a2 == b2)
      · rw [h2] at HR
        go_enter Tryd.func47, Tryd.ntmps47
        go_wp2
        go_ret
        rw [HR.out]
        exact ⟨rfl, HB.out⟩
      · rw [h2, Bool.true_and] at HR
        go_enter Tryd.func47, Tryd.ntmps47
        go_wp2
        go_ret
        rw [HR.out]
        exact ⟨rfl, HB.out⟩
    · dsimp only at hx e1 e2 e3
      subst hx e1 e2 e3
      have hy0 : b1 = 0 ∧ b2 = 0 ∧ b3 = 0 := by
        rcases hy with hy | ⟨hy, _⟩ | ⟨hy, _⟩ | ⟨_, h1, h2, h3⟩
        · cases hy
        · (dsimp only at hy; omega)
        · (dsimp only at hy; omega)
        · exact ⟨h1, h2, h3⟩
      obtain ⟨rfl, rfl, rfl⟩ := hy0
      have HR : Hid (decide ((⟨3, 0, 0, 0, a4⟩ : V5) = ⟨3, 0, 0, 0, b4⟩) = (a4 == b4)) := Lib.hid (by
        rw [Bool.eq_iff_iff, decide_eq_true_eq, beq_iff_eq]
        simp)
      clear hy
      go_enter Tryd.func47, Tryd.ntmps47
      go_wp2
      go_ret
      rw [HR.out]
      exact ⟨rfl, HB.out⟩
  · have HR : Hid (decide ((⟨a0, a1, a2, a3, a4⟩ : V5) = ⟨b0, b1, b2, b3, b4⟩) = false) := Lib.hid (decide_eq_false fun e => hk (V5.mk.inj e).1)
    have n1 : (a0 != b0) = true := by rw [bne_iff_ne]; exact hk
    clear hk
    go_enter Tryd.func47, Tryd.ntmps47
    go_wp2
    go_ret
    rw [HR.out]
    exact ⟨rfl, HB.out⟩
set_option maxHeartbeats 8000000 in
theorem gvs_any (A B : Option Addr) (c d : Nat) (l m : List V5) (w : World) (hl : l.length ≤ 100000) (hA : Fv w A l) (hB : Fv w B m) (hk : ∀ v ∈ l, Pl v) (hk2 : ∀ v ∈ m, Pl v) :
    Calls Tryd.prog 34 #[.slice A l.length c, .slice B m.length d] w (BoolPost (decide (l = m)) w) := by
  by_cases hlen : l.length = m.length
  · have HA := Lib.hid hA
    have HB := Lib.hid hB
    have HK := Lib.hid hk
    have HK2 := Lib.hid hk2
    have HLE := Lib.hid hlen
    have HY : Hid (l.take l.length = m.take l.length → decide (l = m) = true) := Lib.hid (fun h => decide_eq_true (all_eq h hlen))
    have HN : Hid (∀ k, l.getD k z5 ≠ m.getD k z5 → decide (l = m) = false) := Lib.hid (fun k h => ne_at h)
    obtain ⟨r, hr⟩ : ∃ r, decide (l = m) = r := ⟨_, rfl⟩
    rw [hr] at HY HN ⊢
    rw [← hlen]
    clear hA hB hk hk2 hr hlen
    have n1 : ((l.length : Int) != (l.length : Int)) = false := by rw [bne_eq_false_iff_eq]
    go_enter Tryd.func34, Tryd.ntmps34
    go_wp2
    go_loopw [13] (fun i wr => ∃ k : Nat, k ≤ l.length ∧ i = .int .i64 (k : Int) ∧ l.take k = m.take k ∧ Below w.heap.size w wr) (fun i _ => l.length - (intOf i).toNat)
    case atStart => exact ⟨0, by omega, rfl, rfl, Below.refl _ _⟩
    case round =>
      obtain ⟨k, hk, rfl, htk, hb⟩ := hrel
      have HTK := Lib.hid htk
      clear htk
      by_cases hlt : k < l.length
      · obtain ⟨ad, rfl, hc⟩ := (HA.out.old hb.block) k hlt
        have hlt2 : k < m.length := by rw [← HLE.out]; exact hlt
        obtain ⟨ae, rfl, hd⟩ := (HB.out.old hb.block) k hlt2
        have hp1 := HK.out _ (mem_getD (d := z5) hlt)
        have hp2 := HK2.out _ (mem_getD (d := z5) hlt2)
        have HT2 := Lib.hid (fun h => take_both (d := z5) HTK.out hlt hlt2 h)
        have HF2 := Lib.hid (HN.out k)
        obtain ⟨x, hx⟩ : ∃ x, l.getD k z5 = x := ⟨_, rfl⟩
        obtain ⟨y, hy⟩ : ∃ y, m.getD k z5 = y := ⟨_, rfl⟩
        rw [hx] at hc hp1
        rw [hy] at hd hp2
        rw [hx, hy] at HT2 HF2
        have HSV := Lib.hid (gv_any x y wr.drew hp1 hp2)
        obtain ⟨s, hs⟩ : ∃ s, decide (x = y) = s := ⟨_, rfl⟩
        rw [hs] at HSV
        have HS1 : Hid (s = true → x = y) := Lib.hid (fun h => of_decide_eq_true (hs.trans h))
        have HS0 : Hid (s = false → x ≠ y) := Lib.hid (fun h => of_decide_eq_false (hs.trans h))
        have HBW := Lib.hid (hb.drew)
        clear hlt2
        obtain ⟨a0, a1, a2, a3, a4⟩ := x
        obtain ⟨b0, b1, b2, b3, b4⟩ := y
        unfold agg5 at HSV
        obtain ⟨q0, q1, q2, q3, q4⟩ := hc
        obtain ⟨p0, p1, p2, p3, p4⟩ := hd
        dsimp only at q0 q1 q2 q3 q4 p0 p1 p2 p3 p4 HSV
        clear hx hy hb hp1 hp2 hs
        cases s
        · have HRR := Lib.hid (HF2.out (HS0.out rfl))
          go_wp2
          go_region_law (first | (go_simp; go_at_call 47; refine HSV.out.mono ?_; rintro e w6 ⟨rfl, hb6⟩))
          all_goals
            have HBF := Lib.hid (HBW.out.trans (hb6.mono HBW.out.size))
            clear hb6
            go_wp2
            go_ret
            rw [HRR.out]
            exact ⟨rfl, HBF.out⟩
        · have HRR := Lib.hid (HT2.out (HS1.out rfl))
          go_wp2
          go_region_law (first | (go_simp; go_at_call 47; refine HSV.out.mono ?_; rintro e w6 ⟨rfl, hb6⟩))
          all_goals
            have HBF := Lib.hid (HBW.out.trans (hb6.mono HBW.out.size))
            clear hb6
            go_wp2
            go_roundw
            case rel => exact ⟨k + 1, by omega, by go_num, HRR.out, HBF.out⟩
            case measure => simp [intOf]; omega
      · obtain rfl : k = l.length := by omega
        go_wp2
        go_ret
        rw [HY.out HTK.out]
        exact ⟨rfl, hb⟩
  · have HR : Hid (decide (l = m) = false) := Lib.hid (decide_eq_false fun e => hlen (by rw [e]))
    have n1 : ((l.length : Int) != (m.length : Int)) = true := by rw [bne_iff_ne]; omega
    clear hlen
    go_enter Tryd.func34, Tryd.ntmps34
    go_wp2
    go_ret
    rw [HR.out]
    exact ⟨rfl, Below.refl _ _⟩
theorem g3_parts {a b : G3} : decide (a = b) = (decide (a.ns = b.ns) && decide (a.rs = b.rs) && decide (a.ws = b.ws)) := by
  cases a; cases b
  rw [Bool.eq_iff_iff, decide_eq_true_eq, Bool.and_eq_true, Bool.and_eq_true, decide_eq_true_eq, decide_eq_true_eq, decide_eq_true_eq]
  simp [and_assoc]
set_option maxHeartbeats 8000000 in
theorem gs_any (va vb : Value) (a b : G3) (w : World) (ha : GAt w va a) (hb : GAt w vb b) (hn : a.ns.length ≤ 4096) (za : Sz a) (zb : Sz b) (pa : ∀ x ∈ a.ns, ∀ v ∈ x.fs, Pl v) (pb : ∀ x ∈ b.ns, ∀ v ∈ x.fs, Pl v) : Calls Tryd.prog 13 #[va, vb] w (BoolPost (decide (a = b)) w) := by
  obtain ⟨AN, cN, AR, cR, AW, cW, rfl, _, _, _, aN, aR, aW⟩ := ha
  obtain ⟨BN, dN, BR, dR, BW, dW, rfl, _, _, _, bN, bR, bW⟩ := hb
  have HAN := Lib.hid aN
  have HBN := Lib.hid bN
  have HPA := Lib.hid pa
  have HPB := Lib.hid pb
  have HZ := Lib.hid za.f
  have z1 := za.r
  have z2 := za.s
  obtain ⟨w0, hw0⟩ : ∃ w0, (w.alloc (.cells #[.slice AN a.ns.length cN, .slice AR a.rs.length cR, .slice AW a.ws.length cW] 25)).alloc (.cells #[.slice BN b.ns.length dN, .slice BR b.rs.length dR, .slice BW b.ws.length dW] 25) = w0 := ⟨_, rfl⟩
  have HB0 : Hid (Below w.heap.size w w0) := Lib.hid (by rw [← hw0]; exact ((Below.refl _ _).alloc (Nat.le_refl _) _).alloc (by simp) _)
  have HXA : Hid (w0.heap[w.heap.size]? = some (.cells #[.slice AN a.ns.length cN, .slice AR a.rs.length cR, .slice AW a.ws.length cW] 25 (0, 0))) := Lib.hid (by
    rw [← hw0]
    exact (((Below.refl (w.heap.size + 1) _).alloc (by simp) _).block w.heap.size (by omega)).trans (heap_alloc_new w _))
  have HXB : Hid (w0.heap[w.heap.size + 1]? = some (.cells #[.slice BN b.ns.length dN, .slice BR b.rs.length dR, .slice BW b.ws.length dW] 25 (0, 0))) := Lib.hid (by
    rw [← hw0, ← size_al w (.cells #[.slice AN a.ns.length cN, .slice AR a.rs.length cR, .slice AW a.ws.length cW] 25)]; exact heap_alloc_new _ _)
  obtain ⟨x0, x1, x2⟩ := Bx3_one HXA.out
  obtain ⟨y0, y1, y2⟩ := Bx3_one HXB.out
  by_cases hlen : a.ns.length = b.ns.length
  · have HLE := Lib.hid hlen
    have n1 : ((a.ns.length : Int) != (b.ns.length : Int)) = false := by rw [bne_eq_false_iff_eq]; omega
    have cne : ∀ z : Int, (z != z) = false := fun z => by rw [bne_eq_false_iff_eq]
    have hc1 := gi_any AR BR cR dR a.rs b.rs w0 (by omega) (aR.below HB0.out.block) (bR.below HB0.out.block)
    have hc2 : ∀ W, Below w.heap.size w W → Calls Tryd.prog 33 #[.slice AW a.ws.length cW, .slice BW b.ws.length dW] W (BoolPost (decide (a.ws = b.ws)) W) := fun W hW => gi_any AW BW cW dW a.ws b.ws W (by omega) (aW.below hW.block) (bW.below hW.block)
    obtain ⟨r1, hr1⟩ : ∃ r, decide (a.rs = b.rs) = r := ⟨_, rfl⟩
    obtain ⟨r2, hr2⟩ : ∃ r, decide (a.ws = b.ws) = r := ⟨_, rfl⟩
    have HGP : Hid (decide (a = b) = (decide (a.ns = b.ns) && r1 && r2)) := Lib.hid (by rw [← hr1, ← hr2]; exact g3_parts)
    rw [hr1] at hc1
    simp only [hr2] at hc2
    have HC1 := Lib.hid hc1
    have HC2 := Lib.hid hc2
    clear aN aR aW bN bR bW hc1 hc2 hr1 hr2 hlen pa pb za zb
    cases r1
    · have HRR : Hid (decide (a = b) = false) := Lib.hid (by rw [HGP.out]; simp)
      go_enter Tryd.func13, Tryd.ntmps13
      go_wp2_with fail
      refine HC1.out.mono ?_
      rintro e w1 ⟨rfl, hb1⟩
      have HB1 := Lib.hid (HB0.out.trans (hb1.mono HB0.out.size))
      go_wp2
      go_ret
      rw [HRR.out]
      exact ⟨rfl, HB1.out⟩
    cases r2
    · have HRR : Hid (decide (a = b) = false) := Lib.hid (by rw [HGP.out]; simp)
      go_enter Tryd.func13, Tryd.ntmps13
      go_wp2_with fail
      refine HC1.out.mono ?_
      rintro e w1 ⟨rfl, hb1⟩
      have HB1 := Lib.hid (HB0.out.trans (hb1.mono HB0.out.size))
      have HXA1 := Lib.hid ((hb1.block _ (blt HXA.out)).trans HXA.out)
      have HXB1 := Lib.hid ((hb1.block _ (blt HXB.out)).trans HXB.out)
      obtain ⟨t0, t1, t2⟩ := Bx3_one HXA1.out
      obtain ⟨u0, u1, u2⟩ := Bx3_one HXB1.out
      clear hb1
      go_wp2_with fail
      refine (HC2.out _ HB1.out).mono ?_
      rintro e w2 ⟨rfl, hb2⟩
      have HB2 := Lib.hid (HB1.out.trans (hb2.mono HB1.out.size))
      clear hb2
      go_wp2
      go_ret
      rw [HRR.out]
      exact ⟨rfl, HB2.out⟩
    have HGQ : Hid (decide (a = b) = decide (a.ns = b.ns)) := Lib.hid (by rw [HGP.out]; simp)
    have HY : Hid (a.ns.take a.ns.length = b.ns.take a.ns.length → decide (a = b) = true) := Lib.hid (fun h => by rw [HGQ.out]; exact decide_eq_true (all_eq h HLE.out))
    have HNO : Hid (∀ k, a.ns.getD k zN ≠ b.ns.getD k zN → decide (a = b) = false) := Lib.hid (fun k h => by rw [HGQ.out]; exact ne_at h)
    obtain ⟨r, hr⟩ : ∃ r, decide (a = b) = r := ⟨_, rfl⟩
    rw [hr] at HY HNO ⊢
    clear hr HGP HGQ
    go_enter Tryd.func13, Tryd.ntmps13
    go_wp2_with fail
    refine HC1.out.mono ?_
    rintro e w1 ⟨rfl, hb1⟩
    have HB1 := Lib.hid (HB0.out.trans (hb1.mono HB0.out.size))
    have HXA1 := Lib.hid ((hb1.block _ (blt HXA.out)).trans HXA.out)
    have HXB1 := Lib.hid ((hb1.block _ (blt HXB.out)).trans HXB.out)
    obtain ⟨t0, t1, t2⟩ := Bx3_one HXA1.out
    obtain ⟨u0, u1, u2⟩ := Bx3_one HXB1.out
    clear hb1
    go_wp2_with fail
    refine (HC2.out _ HB1.out).mono ?_
    rintro e w2 ⟨rfl, hb2⟩
    have HB2 := Lib.hid (HB1.out.trans (hb2.mono HB1.out.size))
    have HXA2 := Lib.hid ((hb2.block _ (blt HXA1.out)).trans HXA1.out)
    have HXB2 := Lib.hid ((hb2.block _ (blt HXB1.out)).trans HXB1.out)
    obtain ⟨m0, m1, m2⟩ := Bx3_one HXA2.out
    clear hb2 x0 x1 x2 y0 y1 y2 t0 t1 t2 u0 u1 u2
    go_wp2
    go_loopw [33] (fun i wr => ∃ k : Nat, k ≤ a.ns.length ∧ i = .int .i64 (k : Int) ∧ a.ns.take k = b.ns.take k ∧ Below w2.heap.size w2 wr) (fun i _ => a.ns.length - (intOf i).toNat)
    case atStart => exact ⟨0, Nat.zero_le _, rfl, rfl, Below.refl _ _⟩
    case round =>
      clear m0 m1 m2
      obtain ⟨k, hk, rfl, htk, hb⟩ := hrel
      have HTK := Lib.hid htk
      have HBW : Hid (Below w.heap.size w wr) := Lib.hid (HB2.out.trans (hb.mono HB2.out.size))
      have HBK := Lib.hid hb
      clear htk
      by_cases hlt : k < a.ns.length
      · have hlt2 : k < b.ns.length := by rw [← HLE.out]; exact hlt
        obtain ⟨ad, rfl, q0, A7, c7, q1, _, hf⟩ := (HAN.out.old HBW.out.block) k hlt
        obtain ⟨ae, rfl, p0, B7, d7, p1, _, hg⟩ := (HBN.out.old HBW.out.block) k hlt2
        have hzl := HZ.out _ (mem_getD (d := zN) hlt)
        have hp1 := HPA.out _ (mem_getD (d := zN) hlt)
        have hp2 := HPB.out _ (mem_getD (d := zN) hlt2)
        have HT2 := Lib.hid (fun h => take_both (d := zN) HTK.out hlt hlt2 h)
        have HF2 := Lib.hid (HNO.out k)
        obtain ⟨xn, hxn⟩ : ∃ x, a.ns.getD k zN = x := ⟨_, rfl⟩
        obtain ⟨yn, hyn⟩ : ∃ x, b.ns.getD k zN = x := ⟨_, rfl⟩
        rw [hxn] at q0 q1 hf hzl hp1
        rw [hyn] at p0 p1 hg hp2
        rw [hxn, hyn] at HT2 HF2
        obtain ⟨a0, fs⟩ := xn
        obtain ⟨b0, gs⟩ := yn
        dsimp only at q0 q1 p0 p1 hf hg hzl hp1 hp2
        have hba := (Below.refl wr.heap.size wr).alloc (Nat.le_refl _) (.cells #[.int .i64 a0, .slice A7 fs.length c7] 33)
        have hbd : Below wr.heap.size wr (wr.alloc (.cells #[.int .i64 a0, .slice A7 fs.length c7] 33)).drew := hba.drew
        have hsv := gvs_any A7 B7 c7 d7 fs gs (wr.alloc (.cells #[.int .i64 a0, .slice A7 fs.length c7] 33)).drew (by omega) (hf.old hbd.block) (hg.old hbd.block) hp1 hp2
        obtain ⟨s, hs⟩ : ∃ s, decide (fs = gs) = s := ⟨_, rfl⟩
        rw [hs] at hsv
        have HSV := Lib.hid hsv
        have HS1 : Hid (s = true → fs = gs) := Lib.hid (fun h => of_decide_eq_true (hs.trans h))
        have HS0 : Hid (s = false → fs ≠ gs) := Lib.hid (fun h => of_decide_eq_false (hs.trans h))
        have HBD := Lib.hid (HBK.out.trans (hbd.mono HBK.out.size))
        have hxx : (wr.alloc (.cells #[.int .i64 a0, .slice A7 fs.length c7] 33)).drew.heap[wr.heap.size]? = some (.cells #[.int .i64 a0, .slice A7 fs.length c7] 33 (0, 0)) := heap_alloc_new wr _
        obtain ⟨s0, s1⟩ := two_cells hxx
        have hyy : (wr.alloc (.cells #[.int .i64 a0, .slice A7 fs.length c7] 33)).drew.heap[w.heap.size + 1]? = _ := (hbd.block _ (by have := blt HXB2.out; have := hb.size; omega)).trans ((hb.block _ (blt HXB2.out)).trans HXB2.out)
        obtain ⟨v0, _, _⟩ := Bx3_one hyy
        have p0 := cell_old p0 hbd.block
        have p1 := cell_old p1 hbd.block
        have i0 : (0 : Int) ≤ (k : Int) := by omega
        have i1 : (k : Int) < (a.ns.length : Int) := by omega
        have i2 : (k : Int) < (b.ns.length : Int) := by omega
        clear hf hg hba hbd hxx hyy hp1 hp2 hxn hyn hb hs hsv hlt2
        by_cases hab : a0 = b0
        · subst hab
          cases s
          · have HRR := Lib.hid (HF2.out (fun e => HS0.out rfl (N2.mk.inj e).2))
            go_wp2
            go_region_held3 (fun w' => w'.cell? ⟨wr.heap.size, 0, none⟩ = some (.int .i64 a0) ∧ w'.cell? ⟨wr.heap.size, 1, none⟩ = some (.slice A7 fs.length c7) ∧ w'.cell? ⟨w.heap.size + 1, 0, none⟩ = some (.slice (some ae) b.ns.length dN) ∧ w'.cell? (ae.add (k * 2)) = some (.int .i64 a0) ∧ w'.cell? ⟨(ae.add (k * 2)).block, (ae.add (k * 2)).off + 1, none⟩ = some (.slice B7 gs.length d7))
              (first | (refine ⟨?_, ?_, ?_, ?_, ?_⟩ <;> assumption) | go_keep)
              (first | (go_at_call 34; go_must (refine HSV.out.mono ?_; rintro e w6 ⟨rfl, hb6⟩; have s0 := cell_old s0 hb6.block; have s1 := cell_old s1 hb6.block; have v0 := cell_old v0 hb6.block; have p0 := cell_old p0 hb6.block; have p1 := cell_old p1 hb6.block)))
            all_goals
              have HBF := Lib.hid (HBD.out.trans (hb6.mono HBD.out.size))
              clear hb6
              go_wp2
              go_ret
              rw [HRR.out]
              exact ⟨rfl, HB2.out.trans (HBF.out.mono HB2.out.size)⟩
          · have HRR := Lib.hid (HT2.out (by rw [HS1.out rfl]))
            go_wp2
            go_region_held3 (fun w' => w'.cell? ⟨wr.heap.size, 0, none⟩ = some (.int .i64 a0) ∧ w'.cell? ⟨wr.heap.size, 1, none⟩ = some (.slice A7 fs.length c7) ∧ w'.cell? ⟨w.heap.size + 1, 0, none⟩ = some (.slice (some ae) b.ns.length dN) ∧ w'.cell? (ae.add (k * 2)) = some (.int .i64 a0) ∧ w'.cell? ⟨(ae.add (k * 2)).block, (ae.add (k * 2)).off + 1, none⟩ = some (.slice B7 gs.length d7))
              (first | (refine ⟨?_, ?_, ?_, ?_, ?_⟩ <;> assumption) | go_keep)
              (first | (go_at_call 34; go_must (refine HSV.out.mono ?_; rintro e w6 ⟨rfl, hb6⟩; have s0 := cell_old s0 hb6.block; have s1 := cell_old s1 hb6.block; have v0 := cell_old v0 hb6.block; have p0 := cell_old p0 hb6.block; have p1 := cell_old p1 hb6.block)))
            all_goals
              have HBF := Lib.hid (HBD.out.trans (hb6.mono HBD.out.size))
              clear hb6
              go_wp2
              go_roundw
              case rel => exact ⟨k + 1, by omega, by go_num, HRR.out, HBF.out⟩
              case measure => simp [intOf]; omega
        · have HRR := Lib.hid (HF2.out (fun e => hab (N2.mk.inj e).1))
          have nab : (a0 != b0) = true := by rw [bne_iff_ne]; exact hab
          clear hab
          go_wp2
          go_region
          all_goals
            go_wp2
            go_ret
            rw [HRR.out]
            exact ⟨rfl, HB2.out.trans (HBD.out.mono HB2.out.size)⟩
      · obtain rfl : k = a.ns.length := by omega
        go_wp2
        go_ret
        rw [HY.out HTK.out]
        exact ⟨rfl, HBW.out⟩
  · have HR : Hid (decide (a = b) = false) := Lib.hid (decide_eq_false fun e => hlen (by rw [e]))
    have n1 : ((a.ns.length : Int) != (b.ns.length : Int)) = true := by rw [bne_iff_ne]; omega
    clear hlen aN aR aW bN bR bW pa pb za zb
    go_enter Tryd.func13, Tryd.ntmps13
    go_wp2
    go_ret
    rw [HR.out]
    exact ⟨rfl, HB0.out⟩
end Go.Proofs.YtdgclpgjoanimaaDoor.Sg
