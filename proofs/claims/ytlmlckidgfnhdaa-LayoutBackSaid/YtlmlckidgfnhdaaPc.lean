/- place. -/
import Derived.Test.YtlmlckidgfnhdaaPl
namespace Go.Proofs.Ytlmlckidgfnhdaa.Pc
open Go.RowKit Go.ChangeShapes Go.WideShapes Go.Proofs.YtlmlckidgfnhdaaW.PrintWords Go.Proofs.Ytlmlckidgfnhdaa.Ba Go.Proofs.Ytlmlckidgfnhdaa.Kw Go.Proofs.Ytlmlckidgfnhdaa.Pl
set_option linter.unusedVariables false
set_option linter.unusedSimpArgs false
/-- Bounds under which nothing is cut. -/
structure Fit (c : Cf) : Prop where
  k : c.ks.length ≤ 16
  b0 : 0 ≤ c.b0 ∧ c.b0 ≤ 512
  b1 : 0 ≤ c.b1 ∧ c.b1 ≤ 512
  b2 : 0 ≤ c.b2 ∧ c.b2 ≤ 512
  b3 : 0 ≤ c.b3 ∧ c.b3 ≤ 512
  ro : 0 ≤ c.ro ∧ c.ro ≤ 16
  we : 0 ≤ c.we ∧ c.we ≤ 16
  lg : 0 ≤ c.lg ∧ c.lg ≤ 4096
def cnt (c : Cf) : Int := c.b0 + c.b1 + c.b2 + c.b3
def allW (c : Cf) : Int := c.b0 * 2 + c.b1 * 4 + c.b2 * 8 + c.b3 * 16
def rootsA (c : Cf) : Int := ln (9 + c.ks.length)
def bitsA (c : Cf) : Int := ln (rootsA c + c.ro + c.we)
def logA (c : Cf) : Int := ln (bitsA c + (cnt c + 63) / 64)
def blocksA (c : Cf) : Int := logA c + c.lg
def wordsA (c : Cf) : Int := ln (blocksA c + allW c)
def cs8 (A : Option Addr) (n k : Nat) (b0 b1 b2 b3 ro we lg : Int) : Array Value := #[.slice A n k, .int .i64 b0, .int .i64 b1, .int .i64 b2, .int .i64 b3, .int .i64 ro, .int .i64 we, .int .i64 lg]
theorem cells8 {w : World} {g : Nat} {A : Option Addr} {n k t : Nat} {b0 b1 b2 b3 ro we lg : Int} (h : w.heap[g]? = some (.cells #[.slice A n k, .int .i64 b0, .int .i64 b1, .int .i64 b2, .int .i64 b3, .int .i64 ro, .int .i64 we, .int .i64 lg] t (0, 0))) :
    w.cell? ⟨g, 0, none⟩ = some (.slice A n k) ∧ w.cell? ⟨g, 1, none⟩ = some (.int .i64 b0) ∧ w.cell? ⟨g, 2, none⟩ = some (.int .i64 b1) ∧ w.cell? ⟨g, 3, none⟩ = some (.int .i64 b2) ∧ w.cell? ⟨g, 4, none⟩ = some (.int .i64 b3) ∧
      w.cell? ⟨g, 5, none⟩ = some (.int .i64 ro) ∧ w.cell? ⟨g, 6, none⟩ = some (.int .i64 we) ∧ w.cell? ⟨g, 7, none⟩ = some (.int .i64 lg) := by
  refine ⟨?_, ?_, ?_, ?_, ?_, ?_, ?_, ?_⟩ <;> (rw [blk_cell h]; rfl)
def L13 (A : Option Addr) (n k : Nat) (b0 b1 b2 b3 ro we lg r b l s x : Int) : Array Value := #[.slice A n k, .int .i64 b0, .int .i64 b1, .int .i64 b2, .int .i64 b3, .int .i64 ro, .int .i64 we, .int .i64 lg, .int .i64 r, .int .i64 b, .int .i64 l, .int .i64 s, .int .i64 x]
theorem new2 (w : World) (o : Obj) (cs : Array Value) {t : Nat} : ((w.alloc o).alloc (.cells cs t)).drew.drew.heap[w.heap.size + 1]? = some (.cells cs t (0, 0)) := by
  show ((w.alloc o).alloc (.cells cs t)).heap[w.heap.size + 1]? = _
  rw [← size_al w o]
  exact heap_alloc_new _ _
set_option maxHeartbeats 8000000 in
set_option maxRecDepth 20000 in
theorem place_any (A : Option Addr) (k : Nat) (ks : List (List Int)) (b0 b1 b2 b3 ro we lg : Int) (w : World) (hf : Fit ⟨ks, b0, b1, b2, b3, ro, we, lg⟩) :
    Calls Try.prog 34 #[.agg #[.slice A ks.length k, .int .i64 b0, .int .i64 b1, .int .i64 b2, .int .i64 b3, .int .i64 ro, .int .i64 we, .int .i64 lg]] w fun e w' => e = .returned (.pointer (some ⟨w.heap.size + 1, 0, none⟩)) ∧ Below w.heap.size w w' ∧
      w'.heap[w.heap.size + 1]? = some (.cells (L13 A ks.length k b0 b1 b2 b3 ro we lg (rootsA ⟨ks, b0, b1, b2, b3, ro, we, lg⟩) (bitsA ⟨ks, b0, b1, b2, b3, ro, we, lg⟩) (logA ⟨ks, b0, b1, b2, b3, ro, we, lg⟩) (blocksA ⟨ks, b0, b1, b2, b3, ro, we, lg⟩) (wordsA ⟨ks, b0, b1, b2, b3, ro, we, lg⟩)) 64 (0, 0)) := by
  obtain ⟨fk, ⟨f0, g0⟩, ⟨f1, g1⟩, ⟨f2, g2⟩, ⟨f3, g3⟩, ⟨f5, g5⟩, ⟨f6, g6⟩, ⟨f7, g7⟩⟩ := hf
  dsimp only at fk f0 g0 f1 g1 f2 g2 f3 g3 f5 g5 f6 g6 f7 g7
  have hz : ∀ w, (zeroValue 64).run Try.prog w = .ok (.agg #[.slice none 0 0, .int .i64 0, .int .i64 0, .int .i64 0, .int .i64 0, .int .i64 0, .int .i64 0, .int .i64 0, .int .i64 0, .int .i64 0, .int .i64 0, .int .i64 0, .int .i64 0]) w := fun w => by kernel_rfl
  have hx := heap_alloc_new w (.cells #[.slice A ks.length k, .int .i64 b0, .int .i64 b1, .int .i64 b2, .int .i64 b3, .int .i64 ro, .int .i64 we, .int .i64 lg] 25)
  obtain ⟨p0, p1, p2, p3, p4, p5, p6, p7⟩ := cells8 hx
  have HX := Lib.hid hx
  clear hx
  obtain ⟨i0, i1, i2, i3⟩ := idx4 b0 b1 b2 b3
  go_enter Try.func34, Try.ntmps34
  go_wp2
  go_loop [4, 5, 13] (fun n s i => (i = .int .i64 0 ∧ n = .int .i64 0 ∧ s = .int .i64 0) ∨ (i = .int .i64 1 ∧ n = .int .i64 b0 ∧ s = .int .i64 (b0 * 2)) ∨ (i = .int .i64 2 ∧ n = .int .i64 (b0 + b1) ∧ s = .int .i64 (b0 * 2 + b1 * 4)) ∨
    (i = .int .i64 3 ∧ n = .int .i64 (b0 + b1 + b2) ∧ s = .int .i64 (b0 * 2 + b1 * 4 + b2 * 8)) ∨ (i = .int .i64 4 ∧ n = .int .i64 (b0 + b1 + b2 + b3) ∧ s = .int .i64 (b0 * 2 + b1 * 4 + b2 * 8 + b3 * 16))) (fun _ _ i => 4 - (intOf i).toNat)
  case atStart => exact .inl ⟨rfl, rfl, rfl⟩
  case round =>
    rcases hrel with ⟨rfl, rfl, rfl⟩ | ⟨rfl, rfl, rfl⟩ | ⟨rfl, rfl, rfl⟩ | ⟨rfl, rfl, rfl⟩ | ⟨rfl, rfl, rfl⟩
    · go_wp2_with fail
      refine (size0 _).mono ?_
      rintro e w1 ⟨rfl, rfl⟩
      go_wp2
      go_round
      case rel => exact .inr (.inl ⟨rfl, by first | rfl | go_num | (simp only [Int.zero_add]), by first | rfl | go_num | (simp only [Int.zero_add])⟩)
      case measure => simp [intOf]
    · go_wp2_with fail
      refine (size1 _).mono ?_
      rintro e w1 ⟨rfl, rfl⟩
      go_wp2
      go_round
      case rel => exact .inr (.inr (.inl ⟨rfl, by first | rfl | go_num | (simp only [Int.zero_add]), by first | rfl | go_num | (simp only [Int.zero_add])⟩))
      case measure => simp [intOf]
    · go_wp2_with fail
      refine (size2 _).mono ?_
      rintro e w1 ⟨rfl, rfl⟩
      go_wp2
      go_round
      case rel => exact .inr (.inr (.inr (.inl ⟨rfl, by first | rfl | go_num | (simp only [Int.zero_add]), by first | rfl | go_num | (simp only [Int.zero_add])⟩)))
      case measure => simp [intOf]
    · go_wp2_with fail
      refine (size3 _).mono ?_
      rintro e w1 ⟨rfl, rfl⟩
      go_wp2
      go_round
      case rel => exact .inr (.inr (.inr (.inr ⟨rfl, by first | rfl | go_num | (simp only [Int.zero_add]), by first | rfl | go_num | (simp only [Int.zero_add])⟩)))
      case measure => simp [intOf]
    · go_wp2_with fail
      obtain ⟨r1, hr1⟩ : ∃ r, ln (9 + (ks.length : Int)) = r := ⟨_, rfl⟩
      have hb1 := ln_b (x := 9 + (ks.length : Int)) (by omega)
      have HL1 := Lib.hid (fun W => line_any (9 + (ks.length : Int)) W (by omega) (by omega))
      rw [hr1] at hb1 HL1
      have HR1 := Lib.hid hr1
      obtain ⟨r2, hr2⟩ : ∃ r, ln (r1 + ro + we) = r := ⟨_, rfl⟩
      have hb2 := ln_b (x := r1 + ro + we) (by omega)
      have HL2 := Lib.hid (fun W => line_any (r1 + ro + we) W (by omega) (by omega))
      rw [hr2] at hb2 HL2
      have HR2 := Lib.hid hr2
      have t1 : (b0 + b1 + b2 + b3 + 64 - 1).tdiv 64 = (b0 + b1 + b2 + b3 + 63) / 64 := by rw [show b0 + b1 + b2 + b3 + 64 - 1 = b0 + b1 + b2 + b3 + 63 by omega, Int.tdiv_eq_ediv_of_nonneg (by omega)]
      have hq : 0 ≤ (b0 + b1 + b2 + b3 + 63) / 64 ∧ (b0 + b1 + b2 + b3 + 63) / 64 ≤ 40 := by omega
      obtain ⟨q, hq'⟩ : ∃ q, (b0 + b1 + b2 + b3 + 63) / 64 = q := ⟨_, rfl⟩
      have HQ := Lib.hid hq'
      rw [hq'] at t1 hq
      obtain ⟨r3, hr3⟩ : ∃ r, ln (r2 + q) = r := ⟨_, rfl⟩
      have hb3 := ln_b (x := r2 + q) (by omega)
      have HL3 := Lib.hid (fun W => line_any (r2 + q) W (by omega) (by omega))
      rw [hr3] at hb3 HL3
      have HR3 := Lib.hid hr3
      obtain ⟨r5, hr5⟩ : ∃ r, ln (r3 + lg + (b0 * 2 + b1 * 4 + b2 * 8 + b3 * 16)) = r := ⟨_, rfl⟩
      have hb5 := ln_b (x := r3 + lg + (b0 * 2 + b1 * 4 + b2 * 8 + b3 * 16)) (by omega)
      have HL5 := Lib.hid (fun W => line_any (r3 + lg + (b0 * 2 + b1 * 4 + b2 * 8 + b3 * 16)) W (by omega) (by omega))
      rw [hr5] at hb5 HL5
      have HR5 := Lib.hid hr5
      have E1 : Hid (rootsA ⟨ks, b0, b1, b2, b3, ro, we, lg⟩ = r1) := Lib.hid hr1
      have E2 : Hid (bitsA ⟨ks, b0, b1, b2, b3, ro, we, lg⟩ = r2) := Lib.hid (by unfold bitsA; rw [E1.out]; exact hr2)
      have E3 : Hid (logA ⟨ks, b0, b1, b2, b3, ro, we, lg⟩ = r3) := Lib.hid (by unfold logA cnt; rw [E2.out]; dsimp only; rw [hq']; exact hr3)
      have E4 : Hid (blocksA ⟨ks, b0, b1, b2, b3, ro, we, lg⟩ = r3 + lg) := Lib.hid (by unfold blocksA; rw [E3.out])
      have E5 : Hid (wordsA ⟨ks, b0, b1, b2, b3, ro, we, lg⟩ = r5) := Lib.hid (by unfold wordsA allW; rw [E4.out]; exact hr5)
      clear hr1 hr2 hr3 hr5 hq'
      refine (HL1.out _).mono ?_
      rintro e w1 ⟨rfl, rfl⟩
      go_wp2_with fail
      have a1 : IntKind.i64.wrap (r1 + ro) = r1 + ro := Go.IntWalk.i64_in _ (by omega)
      have a2 : IntKind.i64.wrap (r1 + ro + we) = r1 + ro + we := Go.IntWalk.i64_in _ (by omega)
      go_region_law (first | (go_simp; go_at_call 51; refine (HL2.out _).mono ?_; rintro e w6 ⟨rfl, rfl⟩))
      all_goals
        go_wp2_with fail
        refine (HL3.out _).mono ?_
        rintro e w1 ⟨rfl, rfl⟩
        go_wp2_with fail
        go_region
      all_goals
        go_wp2_with fail
        refine (HL5.out _).mono ?_
        rintro e w1 ⟨rfl, rfl⟩
        go_wp2
        go_ret
        refine ⟨rfl, (((Below.refl _ _).alloc (Nat.le_refl _) _).alloc (by simp) _).drew.drew, ?_⟩
        rw [E1.out, E2.out, E3.out, E4.out, E5.out]
        exact new2 _ _ _
end Go.Proofs.Ytlmlckidgfnhdaa.Pc
