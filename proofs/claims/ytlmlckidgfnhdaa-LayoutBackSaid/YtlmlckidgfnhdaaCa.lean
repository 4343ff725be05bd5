/- Class, Blocks, Pages, Size, At. -/
import Derived.Test.YtlmlckidgfnhdaaRg
namespace Go.Proofs.Ytlmlckidgfnhdaa.Ca
open Go.RowKit Go.ChangeShapes Go.WideShapes Go.Proofs.YtlmlckidgfnhdaaW.PrintWords Go.Proofs.Ytlmlckidgfnhdaa.Ba Go.Proofs.Ytlmlckidgfnhdaa.Kw Go.Proofs.Ytlmlckidgfnhdaa.Kx Go.Proofs.Ytlmlckidgfnhdaa.Pl Go.Proofs.Ytlmlckidgfnhdaa.Pc Go.Proofs.Ytlmlckidgfnhdaa.My Go.Proofs.Ytlmlckidgfnhdaa.Nw Go.Proofs.Ytlmlckidgfnhdaa.Rg
set_option linter.unusedVariables false
set_option linter.unusedSimpArgs false
def inC (x y b : Int) : Prop := x ≤ b ∧ b < y
instance (x y b : Int) : Decidable (inC x y b) := inferInstanceAs (Decidable (_ ∧ _))
def cls (c : Cf) (b : Int) : Int := if inC 0 c.b0 b then 0 else if inC c.b0 (c.b0 + c.b1) b then 1 else if inC (c.b0 + c.b1) (c.b0 + c.b1 + c.b2) b then 2 else if inC (c.b0 + c.b1 + c.b2) (c.b0 + c.b1 + c.b2 + c.b3) b then 3 else -1
theorem blk_old {w w' : World} {g : Nat} {A : Option Addr} {k : Nat} {c : Cf} (h : LAt w g A k c) (hb : Below w.heap.size w w') : LAt w' g A k c := h.below hb
set_option maxHeartbeats 8000000 in
theorem class_any (g : Nat) (A : Option Addr) (k : Nat) (ks : List (List Int)) (b0 b1 b2 b3 ro we lg b : Int) (w : World) (h : LAt w g A k ⟨ks, b0, b1, b2, b3, ro, we, lg⟩) (hf : Bd ⟨ks, b0, b1, b2, b3, ro, we, lg⟩) :
    Calls Try.prog 23 #[.pointer (some ⟨g, 0, none⟩), .int .i64 b] w (IntPost (cls ⟨ks, b0, b1, b2, b3, ro, we, lg⟩ b) w) := by
  have HL := Lib.hid h
  have HF := Lib.hid hf
  have HCL : Hid (cls ⟨ks, b0, b1, b2, b3, ro, we, lg⟩ b = if inC 0 b0 b then 0 else if inC b0 (b0 + b1) b then 1 else if inC (b0 + b1) (b0 + b1 + b2) b then 2 else if inC (b0 + b1 + b2) (b0 + b1 + b2 + b3) b then 3 else -1) := Lib.hid rfl
  obtain ⟨K, hK⟩ : ∃ K, cls ⟨ks, b0, b1, b2, b3, ro, we, lg⟩ b = K := ⟨_, rfl⟩
  rw [hK] at HCL ⊢
  clear h hf hK
  go_enter Try.func23, Try.ntmps23
  go_wp2
  go_loopw [8] (fun i wr => (i = .int .i64 0 ∧ Below w.heap.size w wr) ∨ (i = .int .i64 1 ∧ ¬ inC 0 b0 b ∧ Below w.heap.size w wr) ∨ (i = .int .i64 2 ∧ ¬ inC 0 b0 b ∧ ¬ inC b0 (b0 + b1) b ∧ Below w.heap.size w wr) ∨ (i = .int .i64 3 ∧ ¬ inC 0 b0 b ∧ ¬ inC b0 (b0 + b1) b ∧ ¬ inC (b0 + b1) (b0 + b1 + b2) b ∧ Below w.heap.size w wr) ∨ (i = .int .i64 4 ∧ ¬ inC 0 b0 b ∧ ¬ inC b0 (b0 + b1) b ∧ ¬ inC (b0 + b1) (b0 + b1 + b2) b ∧ ¬ inC (b0 + b1 + b2) (b0 + b1 + b2 + b3) b ∧ Below w.heap.size w wr)) (fun i _ => 4 - (intOf i).toNat)
  case atStart => exact .inl ⟨rfl, Below.refl _ _⟩
  case round =>
    rcases hrel with ⟨rfl, hb⟩ | ⟨rfl, y0, hb⟩ | ⟨rfl, y0, y1, hb⟩ | ⟨rfl, y0, y1, y2, hb⟩ | ⟨rfl, y0, y1, y2, y3, hb⟩
    · have HB := Lib.hid hb
      have HR := Lib.hid (range0 g A k ks b0 b1 b2 b3 ro we lg wr (blk_old HL.out hb) HF.out)
      clear hb
      by_cases h1 : 0 ≤ b
      · by_cases h2 : b < b0
        · have HK : Hid (K = 0) := Lib.hid (by rw [HCL.out]; rw [if_pos ⟨h1, h2⟩])
          go_wp2_with fail
          refine HR.out.mono ?_
          rintro e w1 ⟨rfl, hb1⟩
          have HB1 := Lib.hid (HB.out.trans (hb1.mono HB.out.size))
          clear hb1
          go_wp2
          go_ret
          rw [HK.out]
          exact ⟨rfl, HB1.out⟩
        · have hN : Hid (¬ inC 0 b0 b) := Lib.hid (fun h => h2 h.2)
          have d2 : decide (b < b0) = false := decide_eq_false h2
          go_wp2_with fail
          refine HR.out.mono ?_
          rintro e w1 ⟨rfl, hb1⟩
          have HB1 := Lib.hid (HB.out.trans (hb1.mono HB.out.size))
          clear hb1
          go_wp2
          go_roundw
          case rel => exact .inr (.inl ⟨rfl, hN.out, HB1.out⟩)
          case measure => simp [intOf]
      · have hN : Hid (¬ inC 0 b0 b) := Lib.hid (fun h => h1 h.1)
        have d1 : decide (0 ≤ b) = false := decide_eq_false h1
        go_wp2_with fail
        refine HR.out.mono ?_
        rintro e w1 ⟨rfl, hb1⟩
        have HB1 := Lib.hid (HB.out.trans (hb1.mono HB.out.size))
        clear hb1
        go_wp2
        go_roundw
        case rel => exact .inr (.inl ⟨rfl, hN.out, HB1.out⟩)
        case measure => simp [intOf]
    · have HB := Lib.hid hb
      have HR := Lib.hid (range1 g A k ks b0 b1 b2 b3 ro we lg wr (blk_old HL.out hb) HF.out)
      clear hb
      by_cases h1 : b0 ≤ b
      · by_cases h2 : b < (b0 + b1)
        · have HK : Hid (K = 1) := Lib.hid (by rw [HCL.out]; rw [if_neg y0]; rw [if_pos ⟨h1, h2⟩])
          go_wp2_with fail
          refine HR.out.mono ?_
          rintro e w1 ⟨rfl, hb1⟩
          have HB1 := Lib.hid (HB.out.trans (hb1.mono HB.out.size))
          clear hb1
          go_wp2
          go_ret
          rw [HK.out]
          exact ⟨rfl, HB1.out⟩
        · have hN : Hid (¬ inC b0 (b0 + b1) b) := Lib.hid (fun h => h2 h.2)
          have d2 : decide (b < (b0 + b1)) = false := decide_eq_false h2
          go_wp2_with fail
          refine HR.out.mono ?_
          rintro e w1 ⟨rfl, hb1⟩
          have HB1 := Lib.hid (HB.out.trans (hb1.mono HB.out.size))
          clear hb1
          go_wp2
          go_roundw
          case rel => exact .inr (.inr (.inl ⟨rfl, y0, hN.out, HB1.out⟩))
          case measure => simp [intOf]
      · have hN : Hid (¬ inC b0 (b0 + b1) b) := Lib.hid (fun h => h1 h.1)
        have d1 : decide (b0 ≤ b) = false := decide_eq_false h1
        go_wp2_with fail
        refine HR.out.mono ?_
        rintro e w1 ⟨rfl, hb1⟩
        have HB1 := Lib.hid (HB.out.trans (hb1.mono HB.out.size))
        clear hb1
        go_wp2
        go_roundw
        case rel => exact .inr (.inr (.inl ⟨rfl, y0, hN.out, HB1.out⟩))
        case measure => simp [intOf]
    · have HB := Lib.hid hb
      have HR := Lib.hid (range2 g A k ks b0 b1 b2 b3 ro we lg wr (blk_old HL.out hb) HF.out)
      clear hb
      by_cases h1 : (b0 + b1) ≤ b
      · by_cases h2 : b < (b0 + b1 + b2)
        · have HK : Hid (K = 2) := Lib.hid (by rw [HCL.out]; rw [if_neg y0]; rw [if_neg y1]; rw [if_pos ⟨h1, h2⟩])
          go_wp2_with fail
          refine HR.out.mono ?_
          rintro e w1 ⟨rfl, hb1⟩
          have HB1 := Lib.hid (HB.out.trans (hb1.mono HB.out.size))
          clear hb1
          go_wp2
          go_ret
          rw [HK.out]
          exact ⟨rfl, HB1.out⟩
        · have hN : Hid (¬ inC (b0 + b1) (b0 + b1 + b2) b) := Lib.hid (fun h => h2 h.2)
          have d2 : decide (b < (b0 + b1 + b2)) = false := decide_eq_false h2
          go_wp2_with fail
          refine HR.out.mono ?_
          rintro e w1 ⟨rfl, hb1⟩
          have HB1 := Lib.hid (HB.out.trans (hb1.mono HB.out.size))
          clear hb1
          go_wp2
          go_roundw
          case rel => exact .inr (.inr (.inr (.inl ⟨rfl, y0, y1, hN.out, HB1.out⟩)))
          case measure => simp [intOf]
      · have hN : Hid (¬ inC (b0 + b1) (b0 + b1 + b2) b) := Lib.hid (fun h => h1 h.1)
        have d1 : decide ((b0 + b1) ≤ b) = false := decide_eq_false h1
        go_wp2_with fail
        refine HR.out.mono ?_
        rintro e w1 ⟨rfl, hb1⟩
        have HB1 := Lib.hid (HB.out.trans (hb1.mono HB.out.size))
        clear hb1
        go_wp2
        go_roundw
        case rel => exact .inr (.inr (.inr (.inl ⟨rfl, y0, y1, hN.out, HB1.out⟩)))
        case measure => simp [intOf]
    · have HB := Lib.hid hb
      have HR := Lib.hid (range3 g A k ks b0 b1 b2 b3 ro we lg wr (blk_old HL.out hb) HF.out)
      clear hb
      by_cases h1 : (b0 + b1 + b2) ≤ b
      · by_cases h2 : b < (b0 + b1 + b2 + b3)
        · have HK : Hid (K = 3) := Lib.hid (by rw [HCL.out]; rw [if_neg y0]; rw [if_neg y1]; rw [if_neg y2]; rw [if_pos ⟨h1, h2⟩])
          go_wp2_with fail
          refine HR.out.mono ?_
          rintro e w1 ⟨rfl, hb1⟩
          have HB1 := Lib.hid (HB.out.trans (hb1.mono HB.out.size))
          clear hb1
          go_wp2
          go_ret
          rw [HK.out]
          exact ⟨rfl, HB1.out⟩
        · have hN : Hid (¬ inC (b0 + b1 + b2) (b0 + b1 + b2 + b3) b) := Lib.hid (fun h => h2 h.2)
          have d2 : decide (b < (b0 + b1 + b2 + b3)) = false := decide_eq_false h2
          go_wp2_with fail
          refine HR.out.mono ?_
          rintro e w1 ⟨rfl, hb1⟩
          have HB1 := Lib.hid (HB.out.trans (hb1.mono HB.out.size))
          clear hb1
          go_wp2
          go_roundw
          case rel => exact .inr (.inr (.inr (.inr ⟨rfl, y0, y1, y2, hN.out, HB1.out⟩)))
          case measure => simp [intOf]
      · have hN : Hid (¬ inC (b0 + b1 + b2) (b0 + b1 + b2 + b3) b) := Lib.hid (fun h => h1 h.1)
        have d1 : decide ((b0 + b1 + b2) ≤ b) = false := decide_eq_false h1
        go_wp2_with fail
        refine HR.out.mono ?_
        rintro e w1 ⟨rfl, hb1⟩
        have HB1 := Lib.hid (HB.out.trans (hb1.mono HB.out.size))
        clear hb1
        go_wp2
        go_roundw
        case rel => exact .inr (.inr (.inr (.inr ⟨rfl, y0, y1, y2, hN.out, HB1.out⟩)))
        case measure => simp [intOf]
    · have HB := Lib.hid hb
      have HK : Hid (K = -1) := Lib.hid (by rw [HCL.out, if_neg y0, if_neg y1, if_neg y2, if_neg y3])
      clear hb HCL y0 y1 y2 y3
      go_wp2
      go_ret
      rw [HK.out]
      exact ⟨rfl, HB.out⟩
theorem blocks_any (g : Nat) (A : Option Addr) (k : Nat) (ks : List (List Int)) (b0 b1 b2 b3 ro we lg : Int) (w : World) (h : LAt w g A k ⟨ks, b0, b1, b2, b3, ro, we, lg⟩) (hf : Bd ⟨ks, b0, b1, b2, b3, ro, we, lg⟩) :
    Calls Try.prog 14 #[.pointer (some ⟨g, 0, none⟩)] w (IntPost (b0 + b1 + b2 + b3) w) := by
  have HR := Lib.hid (range3 g A k ks b0 b1 b2 b3 ro we lg w h hf)
  clear h hf
  go_enter Try.func14, Try.ntmps14
  go_wp2_with fail
  refine HR.out.mono ?_
  rintro e w1 ⟨rfl, hb1⟩
  go_wp2
  go_ret
  exact ⟨rfl, hb1⟩
def pagesA (c : Cf) : Int := (c.b0 + c.b1 + c.b2 + c.b3 + 7) / 8
theorem pages_any (g : Nat) (A : Option Addr) (k : Nat) (ks : List (List Int)) (b0 b1 b2 b3 ro we lg : Int) (w : World) (h : LAt w g A k ⟨ks, b0, b1, b2, b3, ro, we, lg⟩) (hf : Bd ⟨ks, b0, b1, b2, b3, ro, we, lg⟩) :
    Calls Try.prog 15 #[.pointer (some ⟨g, 0, none⟩)] w (IntPost (pagesA ⟨ks, b0, b1, b2, b3, ro, we, lg⟩) w) := by
  have HR := Lib.hid (blocks_any g A k ks b0 b1 b2 b3 ro we lg w h hf)
  obtain ⟨⟨f0, g0⟩, ⟨f1, g1⟩, ⟨f2, g2⟩, ⟨f3, g3⟩⟩ := hf
  dsimp only at f0 g0 f1 g1 f2 g2 f3 g3
  have HP : Hid (pagesA ⟨ks, b0, b1, b2, b3, ro, we, lg⟩ = (b0 + b1 + b2 + b3 + 7) / 8) := Lib.hid rfl
  have hs : 0 ≤ b0 + b1 + b2 + b3 ∧ b0 + b1 + b2 + b3 ≤ 2048 := by omega
  obtain ⟨n, hn⟩ : ∃ n, b0 + b1 + b2 + b3 = n := ⟨_, rfl⟩
  rw [hn] at HR HP hs
  clear h f0 g0 f1 g1 f2 g2 f3 g3 hn
  have t1 : (n + 8 - 1).tdiv 8 = (n + 7) / 8 := by rw [show n + 8 - 1 = n + 7 by omega, Int.tdiv_eq_ediv_of_nonneg (by omega)]
  have hq : 0 ≤ (n + 7) / 8 ∧ (n + 7) / 8 ≤ 300 := by omega
  obtain ⟨q, hq'⟩ : ∃ q, (n + 7) / 8 = q := ⟨_, rfl⟩
  rw [hq'] at t1 hq HP
  clear hq'
  go_enter Try.func15, Try.ntmps15
  go_wp2_with fail
  refine HR.out.mono ?_
  rintro e w1 ⟨rfl, hb1⟩
  go_wp2
  go_ret
  rw [HP.out]
  exact ⟨rfl, hb1⟩
end Go.Proofs.Ytlmlckidgfnhdaa.Ca
