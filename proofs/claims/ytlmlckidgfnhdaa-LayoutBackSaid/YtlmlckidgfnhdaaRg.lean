/- Range, Blocks, Pages, Class, Size, At. -/
import Derived.Test.YtlmlckidgfnhdaaNw
namespace Go.Proofs.Ytlmlckidgfnhdaa.Rg
open Go.RowKit Go.ChangeShapes Go.WideShapes Go.Proofs.YtlmlckidgfnhdaaW.PrintWords Go.Proofs.Ytlmlckidgfnhdaa.Ba Go.Proofs.Ytlmlckidgfnhdaa.Kw Go.Proofs.Ytlmlckidgfnhdaa.Kx Go.Proofs.Ytlmlckidgfnhdaa.Pl Go.Proofs.Ytlmlckidgfnhdaa.Pc Go.Proofs.Ytlmlckidgfnhdaa.My Go.Proofs.Ytlmlckidgfnhdaa.Nw
set_option linter.unusedVariables false
set_option linter.unusedSimpArgs false
theorem cells13 {w : World} {g : Nat} {A : Option Addr} {n k t : Nat} {b0 b1 b2 b3 ro we lg r b l s x : Int} (h : w.heap[g]? = some (.cells #[.slice A n k, .int .i64 b0, .int .i64 b1, .int .i64 b2, .int .i64 b3, .int .i64 ro, .int .i64 we, .int .i64 lg, .int .i64 r, .int .i64 b, .int .i64 l, .int .i64 s, .int .i64 x] t (0, 0))) :
    w.cell? ⟨g, 1, none⟩ = some (.int .i64 b0) ∧ w.cell? ⟨g, 2, none⟩ = some (.int .i64 b1) ∧ w.cell? ⟨g, 3, none⟩ = some (.int .i64 b2) ∧ w.cell? ⟨g, 4, none⟩ = some (.int .i64 b3) ∧ w.cell? ⟨g, 11, none⟩ = some (.int .i64 s) := by
  refine ⟨?_, ?_, ?_, ?_, ?_⟩ <;> (rw [blk_cell h]; rfl)
structure Bd (c : Cf) : Prop where
  b0 : 0 ≤ c.b0 ∧ c.b0 ≤ 512
  b1 : 0 ≤ c.b1 ∧ c.b1 ≤ 512
  b2 : 0 ≤ c.b2 ∧ c.b2 ≤ 512
  b3 : 0 ≤ c.b3 ∧ c.b3 ≤ 512
theorem arg_bd {c : Cf} (h : Arg c) : Bd c := ⟨h.b0, h.b1, h.b2, h.b3⟩
/-- The first block of a class. -/
def first (c : Cf) (k : Int) : Int := if k = 0 then 0 else if k = 1 then c.b0 else if k = 2 then c.b0 + c.b1 else if k = 3 then c.b0 + c.b1 + c.b2 else c.b0 + c.b1 + c.b2 + c.b3
def RangePost (x y : Int) (w : World) (e : Ending) (w' : World) : Prop := e = .returned (.tuple #[.int .i64 x, .int .i64 y]) ∧ Below w.heap.size w w'
set_option maxHeartbeats 4000000 in
theorem range0 (g : Nat) (A : Option Addr) (k : Nat) (ks : List (List Int)) (b0 b1 b2 b3 ro we lg : Int) (w : World) (h : LAt w g A k ⟨ks, b0, b1, b2, b3, ro, we, lg⟩) (hf : Bd ⟨ks, b0, b1, b2, b3, ro, we, lg⟩) :
    Calls Try.prog 21 #[.pointer (some ⟨g, 0, none⟩), .int .i64 0] w (RangePost 0 b0 w) := by
  obtain ⟨⟨f0, g0⟩, ⟨f1, g1⟩, ⟨f2, g2⟩, ⟨f3, g3⟩⟩ := hf
  dsimp only at f0 g0 f1 g1 f2 g2 f3 g3
  obtain ⟨c1, c2, c3, c4, c11⟩ := cells13 h
  clear h
  go_enter Try.func21, Try.ntmps21
  go_wp2
  go_loop [6, 26] (fun s i => (i = .int .i64 0 ∧ s = .int .i64 0)) (fun _ i => 0 - (intOf i).toNat)
  case atStart => exact ⟨rfl, rfl⟩
  case round =>
    obtain ⟨rfl, rfl⟩ := hrel
    · go_wp2
      go_region
      all_goals
        go_wp2
        go_ret2
        exact ⟨by first | rfl | (simp only [Int.zero_add]), (Below.refl _ _).drew⟩
set_option maxHeartbeats 4000000 in
theorem range1 (g : Nat) (A : Option Addr) (k : Nat) (ks : List (List Int)) (b0 b1 b2 b3 ro we lg : Int) (w : World) (h : LAt w g A k ⟨ks, b0, b1, b2, b3, ro, we, lg⟩) (hf : Bd ⟨ks, b0, b1, b2, b3, ro, we, lg⟩) :
    Calls Try.prog 21 #[.pointer (some ⟨g, 0, none⟩), .int .i64 1] w (RangePost b0 (b0 + b1) w) := by
  obtain ⟨⟨f0, g0⟩, ⟨f1, g1⟩, ⟨f2, g2⟩, ⟨f3, g3⟩⟩ := hf
  dsimp only at f0 g0 f1 g1 f2 g2 f3 g3
  obtain ⟨c1, c2, c3, c4, c11⟩ := cells13 h
  clear h
  go_enter Try.func21, Try.ntmps21
  go_wp2
  go_loop [6, 26] (fun s i => (i = .int .i64 0 ∧ s = .int .i64 0) ∨ (i = .int .i64 1 ∧ s = .int .i64 b0)) (fun _ i => 1 - (intOf i).toNat)
  case atStart => exact .inl ⟨rfl, rfl⟩
  case round =>
    rcases hrel with ⟨rfl, rfl⟩ | ⟨rfl, rfl⟩
    · go_wp2
      go_round
      case rel => exact .inr ⟨rfl, by first | rfl | go_num | (simp only [Int.zero_add])⟩
      case measure => simp [intOf]
    · go_wp2
      go_region
      all_goals
        go_wp2
        go_ret2
        exact ⟨by first | rfl | (simp only [Int.zero_add]), (Below.refl _ _).drew⟩
set_option maxHeartbeats 4000000 in
theorem range2 (g : Nat) (A : Option Addr) (k : Nat) (ks : List (List Int)) (b0 b1 b2 b3 ro we lg : Int) (w : World) (h : LAt w g A k ⟨ks, b0, b1, b2, b3, ro, we, lg⟩) (hf : Bd ⟨ks, b0, b1, b2, b3, ro, we, lg⟩) :
    Calls Try.prog 21 #[.pointer (some ⟨g, 0, none⟩), .int .i64 2] w (RangePost (b0 + b1) (b0 + b1 + b2) w) := by
  obtain ⟨⟨f0, g0⟩, ⟨f1, g1⟩, ⟨f2, g2⟩, ⟨f3, g3⟩⟩ := hf
  dsimp only at f0 g0 f1 g1 f2 g2 f3 g3
  obtain ⟨c1, c2, c3, c4, c11⟩ := cells13 h
  clear h
  go_enter Try.func21, Try.ntmps21
  go_wp2
  go_loop [6, 26] (fun s i => (i = .int .i64 0 ∧ s = .int .i64 0) ∨ (i = .int .i64 1 ∧ s = .int .i64 b0) ∨ (i = .int .i64 2 ∧ s = .int .i64 (b0 + b1))) (fun _ i => 2 - (intOf i).toNat)
  case atStart => exact .inl ⟨rfl, rfl⟩
  case round =>
    rcases hrel with ⟨rfl, rfl⟩ | ⟨rfl, rfl⟩ | ⟨rfl, rfl⟩
    · go_wp2
      go_round
      case rel => exact .inr (.inl ⟨rfl, by first | rfl | go_num | (simp only [Int.zero_add])⟩)
      case measure => simp [intOf]
    · go_wp2
      go_round
      case rel => exact .inr (.inr ⟨rfl, by first | rfl | go_num | (simp only [Int.zero_add])⟩)
      case measure => simp [intOf]
    · go_wp2
      go_region
      all_goals
        go_wp2
        go_ret2
        exact ⟨by first | rfl | (simp only [Int.zero_add]), (Below.refl _ _).drew⟩
set_option maxHeartbeats 4000000 in
theorem range3 (g : Nat) (A : Option Addr) (k : Nat) (ks : List (List Int)) (b0 b1 b2 b3 ro we lg : Int) (w : World) (h : LAt w g A k ⟨ks, b0, b1, b2, b3, ro, we, lg⟩) (hf : Bd ⟨ks, b0, b1, b2, b3, ro, we, lg⟩) :
    Calls Try.prog 21 #[.pointer (some ⟨g, 0, none⟩), .int .i64 3] w (RangePost (b0 + b1 + b2) (b0 + b1 + b2 + b3) w) := by
  obtain ⟨⟨f0, g0⟩, ⟨f1, g1⟩, ⟨f2, g2⟩, ⟨f3, g3⟩⟩ := hf
  dsimp only at f0 g0 f1 g1 f2 g2 f3 g3
  obtain ⟨c1, c2, c3, c4, c11⟩ := cells13 h
  clear h
  go_enter Try.func21, Try.ntmps21
  go_wp2
  go_loop [6, 26] (fun s i => (i = .int .i64 0 ∧ s = .int .i64 0) ∨ (i = .int .i64 1 ∧ s = .int .i64 b0) ∨ (i = .int .i64 2 ∧ s = .int .i64 (b0 + b1)) ∨ (i = .int .i64 3 ∧ s = .int .i64 (b0 + b1 + b2))) (fun _ i => 3 - (intOf i).toNat)
  case atStart => exact .inl ⟨rfl, rfl⟩
  case round =>
    rcases hrel with ⟨rfl, rfl⟩ | ⟨rfl, rfl⟩ | ⟨rfl, rfl⟩ | ⟨rfl, rfl⟩
    · go_wp2
      go_round
      case rel => exact .inr (.inl ⟨rfl, by first | rfl | go_num | (simp only [Int.zero_add])⟩)
      case measure => simp [intOf]
    · go_wp2
      go_round
      case rel => exact .inr (.inr (.inl ⟨rfl, by first | rfl | go_num | (simp only [Int.zero_add])⟩))
      case measure => simp [intOf]
    · go_wp2
      go_round
      case rel => exact .inr (.inr (.inr ⟨rfl, by first | rfl | go_num | (simp only [Int.zero_add])⟩))
      case measure => simp [intOf]
    · go_wp2
      go_region
      all_goals
        go_wp2
        go_ret2
        exact ⟨by first | rfl | (simp only [Int.zero_add]), (Below.refl _ _).drew⟩
end Go.Proofs.Ytlmlckidgfnhdaa.Rg
