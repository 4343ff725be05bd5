/- Values, rows of values, nodes, rows of nodes, rows of ints compared. -/
import Derived.Test.YtdgclpgjoanimaaDoorAw
namespace Go.Proofs.YtdgclpgjoanimaaDoor.Eq
open Go.RowKit Go.ChangeShapes Go.WideShapes Go.Proofs.YtdgclpgjoanimaaDoorW.PrintWords Go.Proofs.YtdgclpgjoanimaaDoor.Ba Go.Proofs.YtdgclpgjoanimaaDoor.Ma Go.Proofs.YtdgclpgjoanimaaDoor.Mb Go.Proofs.YtdgclpgjoanimaaDoor.Pu Go.Proofs.YtdgclpgjoanimaaDoor.Wa Go.Proofs.YtdgclpgjoanimaaDoor.To Go.Proofs.YtdgclpgjoanimaaDoor.Tr
set_option linter.unusedVariables false
theorem v5_dec (a0 a1 a2 a3 a4 b0 b1 b2 b3 b4 : Int) : decide ((⟨a0, a1, a2, a3, a4⟩ : V5) = ⟨b0, b1, b2, b3, b4⟩) = ((a0 == b0) && (a1 == b1) && (a2 == b2) && (a3 == b3) && (a4 == b4)) := by
  rw [Bool.eq_iff_iff]
  simp [and_assoc]
set_option maxHeartbeats 4000000 in
theorem same_any (x y : V5) (w : World) : Calls Tryd.prog 31 #[agg5 x, agg5 y] w (BoolPost (decide (x = y)) w) := by
  obtain ⟨a0, a1, a2, a3, a4⟩ := x
  obtain ⟨b0, b1, b2, b3, b4⟩ := y
  have HD := Lib.hid (v5_dec a0 a1 a2 a3 a4 b0 b1 b2 b3 b4)
  rw [HD.out]
  unfold agg5
  dsimp only
  have HB := Lib.hid (((Below.refl w.heap.size w).alloc (Nat.le_refl _) (.cells #[.int .i64 a0, .int .i64 a1, .int .u64 a2, .int .u64 a3, .int .i64 a4] 36)).alloc (by simp) (.cells #[.int .i64 b0, .int .i64 b1, .int .u64 b2, .int .u64 b3, .int .i64 b4] 36))
  cases e0 : (a0 == b0)
  · go_enter Tryd.func31, Tryd.ntmps31
    go_wp2
    go_ret
    exact ⟨rfl, HB.out⟩
  · cases e1 : (a1 == b1)
    · go_enter Tryd.func31, Tryd.ntmps31
      go_wp2
      go_ret
      exact ⟨rfl, HB.out⟩
    · cases e2 : (a2 == b2)
      · go_enter Tryd.func31, Tryd.ntmps31
        go_wp2
        go_ret
        exact ⟨rfl, HB.out⟩
      · cases e3 : (a3 == b3)
        · go_enter Tryd.func31, Tryd.ntmps31
          go_wp2
          go_ret
          exact ⟨rfl, HB.out⟩
        · cases e4 : (a4 == b4)
          all_goals
            go_enter Tryd.func31, Tryd.ntmps31
            go_wp2
            go_ret
            exact ⟨rfl, HB.out⟩
theorem take_eq {α : Type} {l m : List α} {d : α} (hl : l.length = m.length) {k : Nat} (h : l.take k = m.take k) (hk : k < l.length) (he : l.getD k d = m.getD k d) : l.take (k + 1) = m.take (k + 1) := by
  rw [take_snoc l d k hk, take_snoc m d k (by omega), h, he]
theorem ne_at {α : Type} {l m : List α} {d : α} {k : Nat} (he : l.getD k d ≠ m.getD k d) : l ≠ m := fun h => he (by rw [h])
set_option maxHeartbeats 4000000 in
theorem eqints_any (A B : Option Addr) (c d : Nat) (l m : List Int) (w : World) (hl : l.length ≤ 100000) (hm : m.length ≤ 100000) (hA : Rd w A l) (hB : Rd w B m) :
    Calls Tryd.prog 32 #[.slice A l.length c, .slice B m.length d] w (BoolPost (decide (l = m)) w) := by
  have HA := Lib.hid hA
  have HB := Lib.hid hB
  clear hA hB
  by_cases hlm : l.length = m.length
  · obtain ⟨n, hn⟩ : ∃ n, l.length = n := ⟨_, rfl⟩
    have HLN := Lib.hid hn
    have HMN : Hid (m.length = n) := Lib.hid (by omega)
    rw [← hlm, hn]
    rw [hn] at hl
    clear hm hlm hn
    have n1 : ((n : Int) != (n : Int)) = false := by rw [bne_eq_false_iff_eq]
    go_enter Tryd.func32, Tryd.ntmps32
    go_wp2
    go_loopw [13] (fun i wr => ∃ k : Nat, k ≤ n ∧ i = .int .i64 (k : Int) ∧ l.take k = m.take k ∧ wr.heap = w.heap ∧ Below w.heap.size w wr) (fun i _ => n - (intOf i).toNat)
    case atStart => exact ⟨0, by omega, rfl, rfl, rfl, Below.refl _ _⟩
    case round =>
      obtain ⟨k, hk, rfl, ht, hh, hb⟩ := hrel
      have HT := Lib.hid ht
      clear ht
      by_cases hlt : k < n
      · obtain ⟨ad, rfl, hc⟩ := HA.out k (by rw [HLN.out]; exact hlt)
        obtain ⟨ae, rfl, hd⟩ := HB.out k (by rw [HMN.out]; exact hlt)
        rw [← cell_heap hh] at hc hd
        have HE := Lib.hid (take_eq (d := (0 : Int)) (by rw [HLN.out, HMN.out]) HT.out (by rw [HLN.out]; exact hlt))
        have HN := Lib.hid (ne_at (l := l) (m := m) (d := (0 : Int)) (k := k))
        obtain ⟨x, hx⟩ : ∃ x, l.getD k 0 = x := ⟨_, rfl⟩
        obtain ⟨y, hy⟩ : ∃ x, m.getD k 0 = x := ⟨_, rfl⟩
        rw [hx] at hc HE HN
        rw [hy] at hd HE HN
        have HH := Lib.hid hh
        clear hh hx hy HT
        by_cases hxy : x = y
        · subst hxy
          have HE2 := Lib.hid (HE.out rfl)
          have n2 : (x != x) = false := by rw [bne_eq_false_iff_eq]
          clear HE HN
          go_wp2
          go_region
          go_wp2
          go_roundw
          case rel => exact ⟨k + 1, by omega, by go_num, HE2.out, HH.out, hb.drew⟩
          case measure => simp [intOf]; omega
        · have HN2 : Hid (decide (l = m) = false) := Lib.hid (decide_eq_false (HN.out hxy))
          have n2 : (x != y) = true := by simp [hxy]
          have n3 : (x == y) = false := by rw [beq_eq_false_iff_ne]; exact hxy
          clear HE HN hxy
          go_wp2
          go_region
          go_wp2
          go_ret
          rw [HN2.out]
          exact ⟨rfl, hb.drew⟩
      · obtain rfl : n = k := by omega
        have HE : Hid (decide (l = m) = true) := Lib.hid (decide_eq_true (by
          have := HT.out
          rw [List.take_of_length_le (by rw [HLN.out]; exact Nat.le_refl _), List.take_of_length_le (by rw [HMN.out]; exact Nat.le_refl _)] at this
          exact this))
        go_wp2
        go_ret
        rw [HE.out]
        exact ⟨rfl, hb⟩
  · have HN2 : Hid (decide (l = m) = false) := Lib.hid (decide_eq_false (fun h => hlm (by rw [h])))
    have n1 : ((l.length : Int) != (m.length : Int)) = true := by simp; omega
    have n3 : ((l.length : Int) == (m.length : Int)) = false := by rw [beq_eq_false_iff_ne]; omega
    go_enter Tryd.func32, Tryd.ntmps32
    go_wp2
    go_ret
    rw [HN2.out]
    exact ⟨rfl, Below.refl _ _⟩
set_option maxHeartbeats 4000000 in
theorem eqfs_any (A B : Option Addr) (c d : Nat) (l m : List V5) (w : World) (hl : l.length ≤ 100000) (hm : m.length ≤ 100000) (hA : Fv w A l) (hB : Fv w B m) :
    Calls Tryd.prog 30 #[.slice A l.length c, .slice B m.length d, .func (.func 31) #[] #[]] w (BoolPost (decide (l = m)) w) := by
  have HA := Lib.hid hA
  have HB := Lib.hid hB
  clear hA hB
  by_cases hlm : l.length = m.length
  · obtain ⟨n, hn⟩ : ∃ n, l.length = n := ⟨_, rfl⟩
    have HLN := Lib.hid hn
    have HMN : Hid (m.length = n) := Lib.hid (by omega)
    rw [← hlm, hn]
    rw [hn] at hl
    clear hm hlm hn
    have n1 : ((n : Int) != (n : Int)) = false := by rw [bne_eq_false_iff_eq]
    go_enter Tryd.func30, Tryd.ntmps30
    go_wp2
    go_loopw [17] (fun i wr => ∃ k : Nat, k ≤ n ∧ i = .int .i64 (k : Int) ∧ l.take k = m.take k ∧ Below w.heap.size w wr) (fun i _ => n - (intOf i).toNat)
    case atStart => exact ⟨0, by omega, rfl, rfl, Below.refl _ _⟩
    case round =>
      obtain ⟨k, hk, rfl, ht, hb⟩ := hrel
      have HT := Lib.hid ht
      have HBW := Lib.hid hb
      clear ht
      by_cases hlt : k < n
      · obtain ⟨ad, rfl, hc⟩ := (HA.out.old hb.block) k (by rw [HLN.out]; exact hlt)
        obtain ⟨ae, rfl, hd⟩ := (HB.out.old hb.block) k (by rw [HMN.out]; exact hlt)
        have HE := Lib.hid (take_eq (d := z5) (by rw [HLN.out, HMN.out]) HT.out (by rw [HLN.out]; exact hlt))
        have HN := Lib.hid (ne_at (l := l) (m := m) (d := z5) (k := k))
        obtain ⟨x, hx⟩ : ∃ x, l.getD k z5 = x := ⟨_, rfl⟩
        obtain ⟨y, hy⟩ : ∃ x, m.getD k z5 = x := ⟨_, rfl⟩
        rw [hx] at hc HE HN
        rw [hy] at hd HE HN
        clear hx hy HT hb
        have hd := hd.old ((Below.refl wr.heap.size wr).alloc (Nat.le_refl _) (.cells #[.int .i64 x.kd, .int .i64 x.n, .int .u64 x.re, .int .u64 x.im, .int .i64 x.ref] 36)).block
        have HSM := Lib.hid (fun W => same_any x y W)
        have HB2 := Lib.hid (((Below.refl wr.heap.size wr).alloc (Nat.le_refl _) (.cells #[.int .i64 x.kd, .int .i64 x.n, .int .u64 x.re, .int .u64 x.im, .int .i64 x.ref] 36)).alloc (by simp) (.cells #[.int .i64 y.kd, .int .i64 y.n, .int .u64 y.re, .int .u64 y.im, .int .i64 y.ref] 36))
        obtain ⟨q0, q1, q2, q3, q4⟩ := hc
        obtain ⟨p0, p1, p2, p3, p4⟩ := hd
        obtain ⟨a0, a1, a2, a3, a4⟩ := x
        obtain ⟨b0, b1, b2, b3, b4⟩ := y
        unfold agg5 at HSM
        dsimp only at q0 q1 q2 q3 q4 p0 p1 p2 p3 p4 HSM HB2
        go_wp2_with fail
        refine (HSM.out _).mono ?_
        rintro e w2 ⟨rfl, hb2⟩
        have HB3 := Lib.hid (HBW.out.trans ((HB2.out.trans (hb2.mono HB2.out.size)).mono HBW.out.size))
        clear hb2
        by_cases hxy : (⟨a0, a1, a2, a3, a4⟩ : V5) = ⟨b0, b1, b2, b3, b4⟩
        · rw [decide_eq_true hxy]
          have HE2 := Lib.hid (HE.out hxy)
          clear HE HN hxy
          go_wp2
          go_roundw
          case rel => exact ⟨k + 1, by omega, by go_num, HE2.out, HB3.out⟩
          case measure => simp [intOf]; omega
        · have HN2 : Hid (decide (l = m) = false) := Lib.hid (decide_eq_false (HN.out hxy))
          rw [decide_eq_false hxy]
          clear HE HN hxy
          go_wp2
          go_ret
          rw [HN2.out]
          exact ⟨rfl, HB3.out⟩
      · obtain rfl : n = k := by omega
        have HE : Hid (decide (l = m) = true) := Lib.hid (decide_eq_true (by
          have := HT.out
          rw [List.take_of_length_le (by rw [HLN.out]; exact Nat.le_refl _), List.take_of_length_le (by rw [HMN.out]; exact Nat.le_refl _)] at this
          exact this))
        go_wp2
        go_ret
        rw [HE.out]
        exact ⟨rfl, hb⟩
  · have HN2 : Hid (decide (l = m) = false) := Lib.hid (decide_eq_false (fun h => hlm (by rw [h])))
    have n1 : ((l.length : Int) != (m.length : Int)) = true := by simp; omega
    have n3 : ((l.length : Int) == (m.length : Int)) = false := by rw [beq_eq_false_iff_ne]; omega
    go_enter Tryd.func30, Tryd.ntmps30
    go_wp2
    go_ret
    rw [HN2.out]
    exact ⟨rfl, Below.refl _ _⟩
theorem n2_dec (a b : Int) (l m : List V5) : decide ((⟨a, l⟩ : N2) = ⟨b, m⟩) = ((a == b) && decide (l = m)) := by
  rw [Bool.eq_iff_iff]
  simp
set_option maxHeartbeats 4000000 in
theorem eqnode_any (A B : Option Addr) (c d : Nat) (a b : Int) (l m : List V5) (w : World) (hl : l.length ≤ 100000) (hm : m.length ≤ 100000) (hA : Fv w A l) (hB : Fv w B m) :
    Calls Tryd.prog 29 #[.agg #[.int .i64 a, .slice A l.length c], .agg #[.int .i64 b, .slice B m.length d]] w (BoolPost (decide ((⟨a, l⟩ : N2) = ⟨b, m⟩)) w) := by
  have HB0 := Lib.hid (((Below.refl w.heap.size w).alloc (Nat.le_refl _) (.cells #[.int .i64 a, .slice A l.length c] 33)).alloc (by simp) (.cells #[.int .i64 b, .slice B m.length d] 33))
  have HE := Lib.hid (eqfs_any A B c d l m _ hl hm (hA.old HB0.out.block) (hB.old HB0.out.block))
  have HD := Lib.hid (n2_dec a b l m)
  rw [HD.out]
  clear hA hB
  cases e0 : (a == b)
  · go_enter Tryd.func29, Tryd.ntmps29
    go_wp2
    go_ret
    exact ⟨rfl, HB0.out⟩
  · go_enter Tryd.func29, Tryd.ntmps29
    go_wp2_with fail
    refine HE.out.mono ?_
    rintro e w2 ⟨rfl, hb2⟩
    have HB3 := Lib.hid (HB0.out.trans (hb2.mono HB0.out.size))
    clear hb2
    go_wp2
    go_ret
    exact ⟨rfl, HB3.out⟩
set_option maxHeartbeats 4000000 in
theorem eqns_any (A B : Option Addr) (c d : Nat) (l m : List N2) (w : World) (hl : l.length ≤ 100000) (hm : m.length ≤ 100000) (hfl : ∀ x ∈ l, x.fs.length ≤ 100000) (hfm : ∀ x ∈ m, x.fs.length ≤ 100000) (hA : Nv w A l) (hB : Nv w B m) :
    Calls Tryd.prog 28 #[.slice A l.length c, .slice B m.length d, .func (.func 29) #[] #[]] w (BoolPost (decide (l = m)) w) := by
  have HA := Lib.hid hA
  have HB := Lib.hid hB
  have HFL := Lib.hid hfl
  have HFM := Lib.hid hfm
  clear hA hB hfl hfm
  by_cases hlm : l.length = m.length
  · obtain ⟨n, hn⟩ : ∃ n, l.length = n := ⟨_, rfl⟩
    have HLN := Lib.hid hn
    have HMN : Hid (m.length = n) := Lib.hid (by omega)
    rw [← hlm, hn]
    rw [hn] at hl
    clear hm hlm hn
    have n1 : ((n : Int) != (n : Int)) = false := by rw [bne_eq_false_iff_eq]
    go_enter Tryd.func28, Tryd.ntmps28
    go_wp2
    go_loopw [17] (fun i wr => ∃ k : Nat, k ≤ n ∧ i = .int .i64 (k : Int) ∧ l.take k = m.take k ∧ Below w.heap.size w wr) (fun i _ => n - (intOf i).toNat)
    case atStart => exact ⟨0, by omega, rfl, rfl, Below.refl _ _⟩
    case round =>
      obtain ⟨k, hk, rfl, ht, hb⟩ := hrel
      have HT := Lib.hid ht
      have HBW := Lib.hid hb
      clear ht
      by_cases hlt : k < n
      · obtain ⟨ad, rfl, q0, A1, c1, q1, _, hf⟩ := (HA.out.old hb.block) k (by rw [HLN.out]; exact hlt)
        obtain ⟨ae, rfl, p0, B1, d1, p1, _, hg⟩ := (HB.out.old hb.block) k (by rw [HMN.out]; exact hlt)
        have HE := Lib.hid (take_eq (d := zN) (by rw [HLN.out, HMN.out]) HT.out (by rw [HLN.out]; exact hlt))
        have HN := Lib.hid (ne_at (l := l) (m := m) (d := zN) (k := k))
        have hl1 := HFL.out _ (mem_getD (d := zN) (show k < l.length by rw [HLN.out]; exact hlt))
        have hl2 := HFM.out _ (mem_getD (d := zN) (show k < m.length by rw [HMN.out]; exact hlt))
        obtain ⟨x, hx⟩ : ∃ x, l.getD k zN = x := ⟨_, rfl⟩
        obtain ⟨y, hy⟩ : ∃ x, m.getD k zN = x := ⟨_, rfl⟩
        rw [hx] at q0 q1 hf hl1 HE HN
        rw [hy] at p0 p1 hg hl2 HE HN
        clear hx hy HT hb
        obtain ⟨a, fa⟩ := x
        obtain ⟨b, fb⟩ := y
        dsimp only at q0 q1 hf hl1 p0 p1 hg hl2
        have hba := (Below.refl wr.heap.size wr).alloc (Nat.le_refl _) (.cells #[.int .i64 a, .slice A1 fa.length c1] 33)
        have p0 := cell_old p0 hba.block
        have p1 := cell_old p1 hba.block
        have HB2 := Lib.hid (hba.alloc hba.size (.cells #[.int .i64 b, .slice B1 fb.length d1] 33))
        have HSM := Lib.hid (eqnode_any A1 B1 c1 d1 a b fa fb _ hl1 hl2 (hf.old HB2.out.block) (hg.old HB2.out.block))
        clear hf hg hba
        go_wp2_with fail
        refine HSM.out.mono ?_
        rintro e w2 ⟨rfl, hb2⟩
        have HB3 := Lib.hid (HBW.out.trans ((HB2.out.trans (hb2.mono HB2.out.size)).mono HBW.out.size))
        clear hb2
        by_cases hxy : (⟨a, fa⟩ : N2) = ⟨b, fb⟩
        · rw [decide_eq_true hxy]
          have HE2 := Lib.hid (HE.out hxy)
          clear HE HN hxy
          go_wp2
          go_roundw
          case rel => exact ⟨k + 1, by omega, by go_num, HE2.out, HB3.out⟩
          case measure => simp [intOf]; omega
        · have HN2 : Hid (decide (l = m) = false) := Lib.hid (decide_eq_false (HN.out hxy))
          rw [decide_eq_false hxy]
          clear HE HN hxy
          go_wp2
          go_ret
          rw [HN2.out]
          exact ⟨rfl, HB3.out⟩
      · obtain rfl : n = k := by omega
        have HE : Hid (decide (l = m) = true) := Lib.hid (decide_eq_true (by
          have := HT.out
          rw [List.take_of_length_le (by rw [HLN.out]; exact Nat.le_refl _), List.take_of_length_le (by rw [HMN.out]; exact Nat.le_refl _)] at this
          exact this))
        go_wp2
        go_ret
        rw [HE.out]
        exact ⟨rfl, hb⟩
  · have HN2 : Hid (decide (l = m) = false) := Lib.hid (decide_eq_false (fun h => hlm (by rw [h])))
    have n1 : ((l.length : Int) != (m.length : Int)) = true := by simp; omega
    have n3 : ((l.length : Int) == (m.length : Int)) = false := by rw [beq_eq_false_iff_ne]; omega
    go_enter Tryd.func28, Tryd.ntmps28
    go_wp2
    go_ret
    rw [HN2.out]
    exact ⟨rfl, Below.refl _ _⟩
theorem g3_dec (a b : G3) : decide (a = b) = (decide (a.ns = b.ns) && decide (a.rs = b.rs) && decide (a.ws = b.ws)) := by
  obtain ⟨a0, a1, a2⟩ := a
  obtain ⟨b0, b1, b2⟩ := b
  rw [Bool.eq_iff_iff]
  simp [and_assoc]
def alikeB (a b : G3) : Bool := mayG a && mayG b && decide (trimL a = trimL b)
end Go.Proofs.YtdgclpgjoanimaaDoor.Eq
