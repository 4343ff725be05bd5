/- The references' SameValue, SameWrites. -/
import Derived.Test.YtmdjbldmfmoaaaaBn
namespace Go.Proofs.Ytmdjbldmfmoaaaa.Bs
open Go.RowKit Go.ChangeShapes Go.WideShapes Go.Proofs.YtmdjbldmfmoaaaaW.PrintWords Go.Proofs.Ytmdjbldmfmoaaaa.Ba Go.Proofs.Ytmdjbldmfmoaaaa.Bu Go.Proofs.Ytmdjbldmfmoaaaa.Bw Go.Proofs.Ytmdjbldmfmoaaaa.Bl Go.Proofs.Ytmdjbldmfmoaaaa.Bn
set_option linter.unusedVariables false
def svB (a b : V5) : Bool := if (a.kd == b.kd) = true then (if (a.kd == 0) = true then true else if (a.kd == 1) = true then a.n == b.n else if (a.kd == 2) = true then a.re == b.re && a.im == b.im else if (a.kd == 3) = true then a.ref == b.ref else false) else false
set_option maxHeartbeats 2000000 in
theorem sv_any (a b : V5) (w : World) : Calls Try.prog 20 #[agg5 a, agg5 b] w (BoolPost (svB a b) w) := by
  obtain ⟨a0, a1, a2, a3, a4⟩ := a
  obtain ⟨b0, b1, b2, b3, b4⟩ := b
  unfold agg5
  dsimp only
  have HB := Lib.hid (((Below.refl w.heap.size w).alloc (Nat.le_refl _) (.cells #[.int .i64 a0, .int .i64 a1, .int .u64 a2, .int .u64 a3, .int .i64 a4] 28)).alloc (by rw [size_al]; omega) (.cells #[.int .i64 b0, .int .i64 b1, .int .u64 b2, .int .u64 b3, .int .i64 b4] 28))
  cases e0 : (a0 == b0)
  · have HS : Hid (svB ⟨a0, a1, a2, a3, a4⟩ ⟨b0, b1, b2, b3, b4⟩ = false) := Lib.hid (by unfold svB; dsimp only; rw [e0]; rfl)
    have e0' : (a0 != b0) = true := by rw [bne, e0]; rfl
    go_enter Try.func20, Try.ntmps20
    go_wp2
    go_ret
    rw [HS.out]
    exact ⟨rfl, HB.out⟩
  · obtain rfl := beq_iff_eq.1 e0
    have e0' : (a0 != a0) = false := by rw [bne, e0]; rfl
    cases e1 : (a0 == 0)
    · cases e2 : (a0 == 1)
      · cases e3 : (a0 == 2)
        · cases e4 : (a0 == 3)
          · have HS : Hid (svB ⟨a0, a1, a2, a3, a4⟩ ⟨a0, b1, b2, b3, b4⟩ = false) := Lib.hid (by unfold svB; dsimp only; rw [e0, e1, e2, e3, e4]; rfl)
            go_enter Try.func20, Try.ntmps20
            go_wp2
            go_ret
            rw [HS.out]
            exact ⟨rfl, HB.out⟩
          · have HS : Hid (svB ⟨a0, a1, a2, a3, a4⟩ ⟨a0, b1, b2, b3, b4⟩ = (a4 == b4)) := Lib.hid (by unfold svB; dsimp only; rw [e0, e1, e2, e3, e4]; rfl)
            cases e5 : (a4 == b4)
            all_goals
              rw [e5] at HS
              go_enter Try.func20, Try.ntmps20
              go_wp2
              go_ret
              rw [HS.out]
              exact ⟨rfl, HB.out⟩
        · cases e5 : (a2 == b2)
          · have HS : Hid (svB ⟨a0, a1, a2, a3, a4⟩ ⟨a0, b1, b2, b3, b4⟩ = false) := Lib.hid (by unfold svB; dsimp only; rw [e0, e1, e2, e3, e5]; rfl)
            go_enter Try.func20, Try.ntmps20
            go_wp2
            go_ret
            rw [HS.out]
            exact ⟨rfl, HB.out⟩
          · cases e6 : (a3 == b3)
            · have HS : Hid (svB ⟨a0, a1, a2, a3, a4⟩ ⟨a0, b1, b2, b3, b4⟩ = false) := Lib.hid (by unfold svB; dsimp only; rw [e0, e1, e2, e3, e5, e6]; rfl)
              go_enter Try.func20, Try.ntmps20
              go_wp2
              go_ret
              rw [HS.out]
              exact ⟨rfl, HB.out⟩
            · have HS : Hid (svB ⟨a0, a1, a2, a3, a4⟩ ⟨a0, b1, b2, b3, b4⟩ = true) := Lib.hid (by unfold svB; dsimp only; rw [e0, e1, e2, e3, e5, e6]; rfl)
              go_enter Try.func20, Try.ntmps20
              go_wp2
              go_ret
              rw [HS.out]
              exact ⟨rfl, HB.out⟩
      · have HS : Hid (svB ⟨a0, a1, a2, a3, a4⟩ ⟨a0, b1, b2, b3, b4⟩ = (a1 == b1)) := Lib.hid (by unfold svB; dsimp only; rw [e0, e1, e2]; rfl)
        cases e5 : (a1 == b1)
        all_goals
          rw [e5] at HS
          go_enter Try.func20, Try.ntmps20
          go_wp2
          go_ret
          rw [HS.out]
          exact ⟨rfl, HB.out⟩
    · have HS : Hid (svB ⟨a0, a1, a2, a3, a4⟩ ⟨a0, b1, b2, b3, b4⟩ = true) := Lib.hid (by unfold svB; dsimp only; rw [e0, e1]; rfl)
      go_enter Try.func20, Try.ntmps20
      go_wp2
      go_ret
      rw [HS.out]
      exact ⟨rfl, HB.out⟩
theorem sv_refl {v : V5} (h0 : 0 ≤ v.kd) (h3 : v.kd ≤ 3) : svB v v = true := by
  have : v.kd = 0 ∨ v.kd = 1 ∨ v.kd = 2 ∨ v.kd = 3 := by omega
  unfold svB
  rcases this with h | h | h | h <;> simp [h]
set_option maxHeartbeats 4000000 in
theorem sw_refl (l : List W8) (A B : Option Addr) (c d : Nat) (w : World) (hA : Kd.C k8 w A l.length l) (hB : Kd.C k8 w B l.length l) (hl : l.length ≤ 1000) (hk : ∀ x ∈ l, 0 ≤ x.v.kd ∧ x.v.kd ≤ 3) :
    Calls Try.prog 15 #[.slice A l.length c, .slice B l.length d] w (BoolPost true w) := by
  have HA := Lib.hid hA
  have HB := Lib.hid hB
  have HK := Lib.hid hk
  clear hA hB hk
  have cne : ∀ z : Int, (z != z) = false := fun z => by rw [bne_eq_false_iff_eq]
  go_enter Try.func15, Try.ntmps15
  go_wp2
  go_loopw [15] (fun i wr => ∃ k : Nat, k ≤ l.length ∧ i = .int .i64 (k : Int) ∧ Below w.heap.size w wr) (fun i _ => l.length - (intOf i).toNat)
  case atStart => exact ⟨0, by omega, rfl, Below.refl _ _⟩
  case round =>
    obtain ⟨k, hk, rfl, hb⟩ := hrel
    have hbs := hb.size
    by_cases hlt : k < l.length
    · obtain ⟨ad, rfl, hc⟩ := at_W8 (Kd.C_below HA.out hb) k hlt
      have hb1 := hb.alloc hb.size (.cells (W8.cs (l.getD k z8)).toArray 31)
      obtain ⟨ae, rfl, hd⟩ := at_W8 (Kd.C_below HB.out hb1) k hlt
      have HSV := Lib.hid (sv_refl (HK.out (l.getD k z8) (mem_getD hlt)).1 (HK.out (l.getD k z8) (mem_getD hlt)).2)
      obtain ⟨x, hx⟩ : ∃ x, l.getD k z8 = x := ⟨_, rfl⟩
      rw [hx] at hc hd HSV hb1
      clear hx
      obtain ⟨q0, q1, q2, q3, q4, q5, q6, q7⟩ := hc
      obtain ⟨r0, r1, r2, r3, r4, r5, r6, r7⟩ := hd
      obtain ⟨f0, f1, f2, ⟨f3, f4, f5, f6, f7⟩⟩ := x
      dsimp only [W8.cs] at q0 q1 q2 q3 q4 q5 q6 q7 r0 r1 r2 r3 r4 r5 r6 r7 HSV hb1
      have HB1 := Lib.hid hb1
      have hb2 : Below w.heap.size w ((wr.alloc (.cells #[.int .i64 f0, .int .i64 f1, .int .i64 f2, .int .i64 f3, .int .i64 f4, .int .u64 f5, .int .u64 f6, .int .i64 f7] 31)).alloc (.cells #[.int .i64 f0, .int .i64 f1, .int .i64 f2, .int .i64 f3, .int .i64 f4, .int .u64 f5, .int .u64 f6, .int .i64 f7] 31)) := hb1.alloc (by have : (wr.alloc (.cells #[.int .i64 f0, .int .i64 f1, .int .i64 f2, .int .i64 f3, .int .i64 f4, .int .u64 f5, .int .u64 f6, .int .i64 f7] 31)).heap.size = wr.heap.size + 1 := size_al _ _; rw [show (wr.alloc (.cells [Value.int .i64 f0, .int .i64 f1, .int .i64 f2, .int .i64 f3, .int .i64 f4, .int .u64 f5, .int .u64 f6, .int .i64 f7].toArray 31)).heap.size = wr.heap.size + 1 from size_al _ _]; omega) (.cells #[.int .i64 f0, .int .i64 f1, .int .i64 f2, .int .i64 f3, .int .i64 f4, .int .u64 f5, .int .u64 f6, .int .i64 f7] 31)
      have HB2 := Lib.hid hb2
      clear hb1 hb2 hb
      go_wp2_with fail
      refine (sv_any ⟨f3, f4, f5, f6, f7⟩ ⟨f3, f4, f5, f6, f7⟩ _).mono ?_
      rintro e w5 ⟨rfl, hb5⟩
      have hb6 := HB2.out.trans (hb5.mono HB2.out.size)
      rw [HSV.out]
      clear hb5
      go_wp2
      go_roundw
      case rel => exact ⟨k + 1, by omega, by go_num, hb6⟩
      case measure => simp [intOf]; omega
    · obtain rfl : k = l.length := by omega
      go_wp2
      go_ret
      exact ⟨rfl, hb⟩
end Go.Proofs.Ytmdjbldmfmoaaaa.Bs
