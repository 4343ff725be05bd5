/-
  A write of one place makes no difference to what is found at another; conditions: those of the statement.
-/
import Derived.Test.YtmdjbldmfmoaaaaRows
import Derived.WalkKit
import Derived.WalkSpells
import Derived.WalkLawsBesides
import Derived.WalkMore
import Derived.ProofKit
import Derived.OpenShut
import Derived.ShutString
import Derived.ChangeOld
import Derived.Below
import Derived.SizedLaws
import Derived.Lib.Hide
import Derived.Test.YtmdjbldmfmoaaaaOpen
import Derived.Test.YtmdjbldmfmoaaaaBl
namespace Go.Proofs.Ytmdjbldmfmoaaaa.bufferApart
open Go.RowKit Go.ChangeShapes Go.WideShapes Go.ChangeAt Go.Proofs.YtmdjbldmfmoaaaaW.PrintWords
set_option linter.unusedVariables false
open Ba Bu Bw Bl
theorem new_at (w : World) (n : Nat) (hn : n = w.heap.size) : Calls Try.prog 9 #[] w fun e w' => e = .returned (.pointer (some ⟨n, 0, none⟩)) ∧ w' = w.alloc (.cells #[.slice none 0 0] 54) := by
  subst hn
  exact new_any w
/-- The first fifty, as the walk cuts them. -/
theorem cut50 (A0 : Option Addr) (c0 : Nat) (x : List W8) (hc : x.length ≤ c0) (w : World) (h : Kd.C k8 w A0 x.length x) (hl : 50 < x.length) :
    ∃ L : List W8, L.length ≤ 50 ∧ Kd.C k8 w A0 L.length L ∧ ∀ W : World, (Instr.slice 32 (.slice A0 x.length c0) none (some (.int .i64 50)) none).run Try.prog W = .ok (.slice A0 L.length c0) W := by
  obtain ⟨i, hi, _⟩ := Option.map_eq_some_iff.1 infoW8
  have hlen : (x.take 50).length = 50 := by rw [List.length_take]; omega
  refine ⟨x.take 50, by omega, Kd.C_take h (by omega), fun W => ?_⟩
  have := cut_to (P := Try.prog) 32 31 .i64 Try.underlying32 hi A0 x.length c0 50 (by omega) (by omega) hc W
  rw [this, hlen]
  rfl
set_option maxHeartbeats 16000000 in
set_option maxRecDepth 20000 in
theorem walk (w : World) (A0 : Option Addr) (c0 : Nat) (x0 : List Ba.W8) (hc0 : x0.length ≤ c0) (hr0 : Kd.C Ba.k8 w A0 x0.length x0) (ok0 : x0.length ≤ maxLen ∧ ∀ y ∈ x0, Ba.ok8 y) (x1 : Ba.W8) (hk1 : Ba.k8.K w x1 (Ba.agg8 x1).cells.toList) (ok1 : Ba.ok8 x1) (a2 : Int) (w2 : (Lit.int .i64 a2).wf = true) (a3 : Int) (w3 : (Lit.int .i64 a3).wf = true) (a4 : Int) (w4 : (Lit.int .i64 a4).wf = true) :
    Calls Try.prog 5 #[.slice A0 x0.length c0, Ba.agg8 x1, .int .i64 a2, .int .i64 a3, .int .i64 a4] w fun e w' => e = .returned (.bool true) ∧ Below w.heap.size w w' := by
  clear hk1 ok1 ok0
  have hm0 := Kd.C_max hr0
  have hcase : (x0.length ≤ 50 ∧ ∃ L : List W8, L = x0) ∨ (50 < x0.length ∧ ∃ L : List W8, L.length ≤ 50 ∧ Kd.C k8 w A0 L.length L ∧ ∀ W : World, (Instr.slice 32 (.slice A0 x0.length c0) none (some (.int .i64 50)) none).run Try.prog W = .ok (.slice A0 L.length c0) W) := by
    by_cases h : 50 < x0.length
    · exact .inr ⟨h, cut50 A0 c0 x0 hc0 w hr0 h⟩
    · exact .inl ⟨by omega, x0, rfl⟩
  obtain ⟨f0, f1, f2, ⟨f3, f4, f5, f6, f7⟩⟩ := x1
  unfold agg8
  dsimp only
  have hb0 := (Below.refl w.heap.size w).alloc (Nat.le_refl _) (.cells #[.int .i64 f0, .int .i64 f1, .int .i64 f2, .int .i64 f3, .int .i64 f4, .int .u64 f5, .int .u64 f6, .int .i64 f7] 31)
  have HB0 := Lib.hid hb0
  have HX0 : Hid (Bx8 (w.alloc (.cells #[.int .i64 f0, .int .i64 f1, .int .i64 f2, .int .i64 f3, .int .i64 f4, .int .u64 f5, .int .u64 f6, .int .i64 f7] 31)) w.heap.size ⟨f0, f1, f2, ⟨f3, f4, f5, f6, f7⟩⟩) := Lib.hid (heap_alloc_new w _)
  have HBF : Hid (Bf ((w.alloc (.cells #[.int .i64 f0, .int .i64 f1, .int .i64 f2, .int .i64 f3, .int .i64 f4, .int .u64 f5, .int .u64 f6, .int .i64 f7] 31)).alloc (.cells #[.slice none 0 0] 54)) (w.heap.size + 1) (w.heap.size + 1) (.slice none 0 0) []) := Lib.hid (by have := bf_new (w.alloc (.cells #[.int .i64 f0, .int .i64 f1, .int .i64 f2, .int .i64 f3, .int .i64 f4, .int .u64 f5, .int .u64 f6, .int .i64 f7] 31)); rw [size_al] at this; exact this)
  have HL0 : Hid (Below (w.heap.size + 1) (w.alloc (.cells #[.int .i64 f0, .int .i64 f1, .int .i64 f2, .int .i64 f3, .int .i64 f4, .int .u64 f5, .int .u64 f6, .int .i64 f7] 31)) ((w.alloc (.cells #[.int .i64 f0, .int .i64 f1, .int .i64 f2, .int .i64 f3, .int .i64 f4, .int .u64 f5, .int .u64 f6, .int .i64 f7] 31)).alloc (.cells #[.slice none 0 0] 54))) := Lib.hid ((Below.refl _ _).alloc (by rw [size_al]; omega) _)
  clear hb0
  rcases hcase with ⟨hl2, L, rfl⟩ | ⟨hl, L, hl2, hC, hsl⟩
  · have HC := Lib.hid hr0
    clear hr0
    go_enter Try.func5, Try.ntmps5
    go_wp2_with fail
    refine (new_at _ (w.heap.size + 1) (size_al _ _).symm).mono ?_
    rintro e w1 ⟨rfl, rfl⟩
    go_wp2
    go_loopw [26] (fun i wr => ∃ (k : Nat) (v : Value), k ≤ L.length ∧ i = .int .i64 (k : Int) ∧ Bf wr (w.heap.size + 1) (w.heap.size + 1) v (pl (L.take k)) ∧ Below (w.heap.size + 1) (w.alloc (.cells #[.int .i64 f0, .int .i64 f1, .int .i64 f2, .int .i64 f3, .int .i64 f4, .int .u64 f5, .int .u64 f6, .int .i64 f7] 31)) wr) (fun i _ => L.length - (intOf i).toNat)
    case atStart => exact ⟨0, _, by omega, rfl, HBF.out, HL0.out⟩
    case round =>
      obtain ⟨k, v, hk, rfl, hf, hb⟩ := hrel
      have hbw := HB0.out.trans (hb.mono (by omega))
      have HFk := Lib.hid hf
      have HX := Lib.hid (HX0.out.below hb (by omega))
      have hbs : w.heap.size + 1 ≤ wr.heap.size := by have := hb.size; rw [size_al] at this; exact this
      clear hf
      by_cases hlt : k < L.length
      · obtain ⟨ad, rfl, hc⟩ := at_W8 (Kd.C_below HC.out hbw) k hlt
        have HS := Lib.hid (show pl (L.take (k + 1)) = putL (pl (L.take k)) (L.getD k z8) by rw [take_snoc L z8 k hlt, pl_snoc])
        obtain ⟨x, hx⟩ : ∃ x, L.getD k z8 = x := ⟨_, rfl⟩
        rw [hx] at hc HS
        clear hx
        obtain ⟨q0, q1, q2, q3, q4, q5, q6, q7⟩ := hc
        obtain ⟨g0, g1, g2, ⟨g3, g4, g5, g6, g7⟩⟩ := x
        dsimp only at q0 q1 q2 q3 q4 q5 q6 q7
        have hl := (Below.refl wr.heap.size wr).alloc (Nat.le_refl _) (.cells #[.int .i64 g0, .int .i64 g1, .int .i64 g2, .int .i64 g3, .int .i64 g4, .int .u64 g5, .int .u64 g6, .int .i64 g7] 31)
        have HF1 := Lib.hid (HFk.out.later hl)
        have hb1 := hb.alloc (by omega) (.cells #[.int .i64 g0, .int .i64 g1, .int .i64 g2, .int .i64 g3, .int .i64 g4, .int .u64 g5, .int .u64 g6, .int .i64 g7] 31)
        clear hl hb HFk HX
        go_wp2_with fail
        refine (put_any (w.heap.size + 1) (w.heap.size + 1) v _ ⟨g0, g1, g2, ⟨g3, g4, g5, g6, g7⟩⟩ _ HF1.out).mono ?_
        rintro e w2 ⟨rfl, v2, hf2, hk2, _⟩
        have hb2 := hb1.trans (hk2.below HF1.out)
        rw [← HS.out] at hf2
        have HF2 := Lib.hid hf2
        clear HF1 hk2 hf2 hb1
        go_wp2
        go_roundw
        case rel => exact ⟨k + 1, v2, by omega, by go_num, HF2.out, hb2⟩
        case measure => simp [intOf]; omega
      · obtain rfl : k = L.length := by omega
        rw [List.take_length] at HFk
        obtain ⟨M, hM⟩ : ∃ M, pl L = M := ⟨_, rfl⟩
        rw [hM] at HFk
        obtain ⟨p0, p1, p2, p3, p4, p5, p6, p7⟩ := HX.out.cells
        obtain ⟨wz, rfl⟩ : ∃ wz : World, wz = wr := ⟨_, rfl⟩
        have HF0 := HFk
        have hgz := HFk.out.lt
        have HBW := Lib.hid hbw
        clear hM HBF HX0 HL0 HB0 hb hbw HC
        cases em : matchP a2 a3 a4 ⟨f0, f1, f2, ⟨f3, f4, f5, f6, f7⟩⟩
        · have HPA := Lib.hid (put_apart em M)
          have ec := match_f (f0 == a2) (f2 == a4) (a2 != 1) (f1 == a3) em
          clear em
          rcases ec with e1 | ⟨e1, e2⟩ | ⟨e1, e2, e3, e4⟩
          all_goals
            go_wp2_with fail
            refine (find2_any (w.heap.size + 1) (w.heap.size + 1) v M a2 a3 a4 _ HFk.out).mono ?_
            rintro e w5 ⟨rfl, hb5⟩
            obtain ⟨fvv, hfv⟩ : ∃ y, fv a2 a3 a4 M = y := ⟨_, rfl⟩
            obtain ⟨fbb, hfb⟩ : ∃ y, fb a2 a3 a4 M = y := ⟨_, rfl⟩
            rw [hfv, hfb] at HPA ⊢
            obtain ⟨v0, v1, v2, v3, v4⟩ := fvv
            have hl := (Below.refl w5.heap.size w5).alloc (Nat.le_refl _) (.cells #[.int .i64 v0, .int .i64 v1, .int .u64 v2, .int .u64 v3, .int .i64 v4] 28)
            have hl5 := hb5.trans (hl.mono hb5.size)
            have HF5 := Lib.hid (HFk.out.later hl5)
            have hx5 := HX.out.below hl5 (by omega)
            have HX5 := Lib.hid hx5
            obtain ⟨p0, p1, p2, p3, p4, p5, p6, p7⟩ := hx5.cells
            have hbw5 := HBW.out.trans (hl5.mono HBW.out.size)
            have HBW5 := Lib.hid hbw5
            have HY5 : Hid (Bx5 (w5.alloc (.cells #[.int .i64 v0, .int .i64 v1, .int .u64 v2, .int .u64 v3, .int .i64 v4] 28)) w5.heap.size ⟨v0, v1, v2, v3, v4⟩) := Lib.hid (heap_alloc_new w5 _)
            have hs5 := hb5.size
            clear hl hl5 hb5 hx5 hbw5 HFk HX HBW hfv hfb
            unfold agg5
            dsimp only
            go_wp2_with fail
            refine (put_any (w.heap.size + 1) (w.heap.size + 1) v M ⟨f0, f1, f2, ⟨f3, f4, f5, f6, f7⟩⟩ _ HF5.out).mono ?_
            rintro e w6 ⟨rfl, v6, hf6, hk6, hat6⟩
            have hbw6 := HBW5.out.trans ((hk6.below HF5.out).mono (by omega))
            have hy6 : Bx5 w6 w5.heap.size ⟨v0, v1, v2, v3, v4⟩ := (hk6.block w5.heap.size (by rw [size_al]; omega) (by omega) (fun e => by have := (R8.lt HF0.out.2.1 _ e).2; omega)).trans HY5.out
            have HF6 := Lib.hid hf6
            have HY6 := Lib.hid hy6
            have HBW6 := Lib.hid hbw6
            have hs6 := hk6.size
            rw [size_al] at hs6
            clear hf6 hk6 hat6 hy6 hbw6 HF5 HX5 HBW5 HY5 p0 p1 p2 p3 p4 p5 p6 p7
            go_wp2_with fail
            refine (find2_any (w.heap.size + 1) (w.heap.size + 1) v6 _ a2 a3 a4 _ HF6.out).mono ?_
            rintro e w7 ⟨rfl, hb7⟩
            rw [HPA.out.1, HPA.out.2]
            have hl := (Below.refl w7.heap.size w7).alloc (Nat.le_refl _) (.cells #[.int .i64 v0, .int .i64 v1, .int .u64 v2, .int .u64 v3, .int .i64 v4] 28)
            have hs7 := hb7.size
            have hl7 := hb7.trans (hl.mono hb7.size)
            have hy7 := HY6.out.below hl7 (by omega)
            have hz7 : Bx5 (w7.alloc (.cells #[.int .i64 v0, .int .i64 v1, .int .u64 v2, .int .u64 v3, .int .i64 v4] 28)) w7.heap.size ⟨v0, v1, v2, v3, v4⟩ := heap_alloc_new w7 _
            have hbw7 := HBW6.out.trans (hl7.mono HBW6.out.size)
            have HBW7 := Lib.hid hbw7
            obtain ⟨y0, y1, y2, y3, y4⟩ := hy7.cells
            have hlt57 : w5.heap.size < w7.heap.size := by omega
            clear hl hl7 hb7 hy7 hz7 hbw7 HF6 HY6 HBW6 HPA HF0
            unfold agg5
            dsimp only
            have ceq : ∀ z : Int, (z == z) = true := fun z => by rw [beq_iff_eq]
            have cbq : ∀ z : Bool, (z == z) = true := fun z => by rw [beq_iff_eq]
            go_wp2_with fail
            refine (awake_any _).mono ?_
            rintro e w8 ⟨rfl, hb8⟩
            have hb9 := HBW7.out.trans (hb8.mono HBW7.out.size)
            clear hb8
            go_wp2
            go_ret
            exact ⟨rfl, hb9⟩
        · have ec := match_t (f0 == a2) (f2 == a4) (a2 != 1) (f1 == a3) em
          clear em
          rcases ec with ⟨e1, e2, e3⟩ | ⟨e1, e2, e3, e4⟩
          all_goals
            go_wp2_with fail
            refine (awake_any _).mono ?_
            rintro e w8 ⟨rfl, hb8⟩
            have hb9 := HBW.out.trans (hb8.mono HBW.out.size)
            clear hb8
            go_wp2
            go_ret
            exact ⟨rfl, hb9⟩
  · have HC := Lib.hid hC
    clear hr0 hC
    go_enter Try.func5, Try.ntmps5
    go_wp2_with fail
    refine (new_at _ (w.heap.size + 1) (size_al _ _).symm).mono ?_
    rintro e w1 ⟨rfl, rfl⟩
    go_wp2
    go_loopw [26] (fun i wr => ∃ (k : Nat) (v : Value), k ≤ L.length ∧ i = .int .i64 (k : Int) ∧ Bf wr (w.heap.size + 1) (w.heap.size + 1) v (pl (L.take k)) ∧ Below (w.heap.size + 1) (w.alloc (.cells #[.int .i64 f0, .int .i64 f1, .int .i64 f2, .int .i64 f3, .int .i64 f4, .int .u64 f5, .int .u64 f6, .int .i64 f7] 31)) wr) (fun i _ => L.length - (intOf i).toNat)
    case atStart => exact ⟨0, _, by omega, rfl, HBF.out, HL0.out⟩
    case round =>
      obtain ⟨k, v, hk, rfl, hf, hb⟩ := hrel
      have hbw := HB0.out.trans (hb.mono (by omega))
      have HFk := Lib.hid hf
      have HX := Lib.hid (HX0.out.below hb (by omega))
      have hbs : w.heap.size + 1 ≤ wr.heap.size := by have := hb.size; rw [size_al] at this; exact this
      clear hf
      by_cases hlt : k < L.length
      · obtain ⟨ad, rfl, hc⟩ := at_W8 (Kd.C_below HC.out hbw) k hlt
        have HS := Lib.hid (show pl (L.take (k + 1)) = putL (pl (L.take k)) (L.getD k z8) by rw [take_snoc L z8 k hlt, pl_snoc])
        obtain ⟨x, hx⟩ : ∃ x, L.getD k z8 = x := ⟨_, rfl⟩
        rw [hx] at hc HS
        clear hx
        obtain ⟨q0, q1, q2, q3, q4, q5, q6, q7⟩ := hc
        obtain ⟨g0, g1, g2, ⟨g3, g4, g5, g6, g7⟩⟩ := x
        dsimp only at q0 q1 q2 q3 q4 q5 q6 q7
        have hl := (Below.refl wr.heap.size wr).alloc (Nat.le_refl _) (.cells #[.int .i64 g0, .int .i64 g1, .int .i64 g2, .int .i64 g3, .int .i64 g4, .int .u64 g5, .int .u64 g6, .int .i64 g7] 31)
        have HF1 := Lib.hid (HFk.out.later hl)
        have hb1 := hb.alloc (by omega) (.cells #[.int .i64 g0, .int .i64 g1, .int .i64 g2, .int .i64 g3, .int .i64 g4, .int .u64 g5, .int .u64 g6, .int .i64 g7] 31)
        clear hl hb HFk HX
        go_wp2_with fail
        refine (put_any (w.heap.size + 1) (w.heap.size + 1) v _ ⟨g0, g1, g2, ⟨g3, g4, g5, g6, g7⟩⟩ _ HF1.out).mono ?_
        rintro e w2 ⟨rfl, v2, hf2, hk2, _⟩
        have hb2 := hb1.trans (hk2.below HF1.out)
        rw [← HS.out] at hf2
        have HF2 := Lib.hid hf2
        clear HF1 hk2 hf2 hb1
        go_wp2
        go_roundw
        case rel => exact ⟨k + 1, v2, by omega, by go_num, HF2.out, hb2⟩
        case measure => simp [intOf]; omega
      · obtain rfl : k = L.length := by omega
        rw [List.take_length] at HFk
        obtain ⟨M, hM⟩ : ∃ M, pl L = M := ⟨_, rfl⟩
        rw [hM] at HFk
        obtain ⟨p0, p1, p2, p3, p4, p5, p6, p7⟩ := HX.out.cells
        obtain ⟨wz, rfl⟩ : ∃ wz : World, wz = wr := ⟨_, rfl⟩
        have HF0 := HFk
        have hgz := HFk.out.lt
        have HBW := Lib.hid hbw
        clear hM HBF HX0 HL0 HB0 hb hbw HC
        cases em : matchP a2 a3 a4 ⟨f0, f1, f2, ⟨f3, f4, f5, f6, f7⟩⟩
        · have HPA := Lib.hid (put_apart em M)
          have ec := match_f (f0 == a2) (f2 == a4) (a2 != 1) (f1 == a3) em
          clear em
          rcases ec with e1 | ⟨e1, e2⟩ | ⟨e1, e2, e3, e4⟩
          all_goals
            go_wp2_with fail
            refine (find2_any (w.heap.size + 1) (w.heap.size + 1) v M a2 a3 a4 _ HFk.out).mono ?_
            rintro e w5 ⟨rfl, hb5⟩
            obtain ⟨fvv, hfv⟩ : ∃ y, fv a2 a3 a4 M = y := ⟨_, rfl⟩
            obtain ⟨fbb, hfb⟩ : ∃ y, fb a2 a3 a4 M = y := ⟨_, rfl⟩
            rw [hfv, hfb] at HPA ⊢
            obtain ⟨v0, v1, v2, v3, v4⟩ := fvv
            have hl := (Below.refl w5.heap.size w5).alloc (Nat.le_refl _) (.cells #[.int .i64 v0, .int .i64 v1, .int .u64 v2, .int .u64 v3, .int .i64 v4] 28)
            have hl5 := hb5.trans (hl.mono hb5.size)
            have HF5 := Lib.hid (HFk.out.later hl5)
            have hx5 := HX.out.below hl5 (by omega)
            have HX5 := Lib.hid hx5
            obtain ⟨p0, p1, p2, p3, p4, p5, p6, p7⟩ := hx5.cells
            have hbw5 := HBW.out.trans (hl5.mono HBW.out.size)
            have HBW5 := Lib.hid hbw5
            have HY5 : Hid (Bx5 (w5.alloc (.cells #[.int .i64 v0, .int .i64 v1, .int .u64 v2, .int .u64 v3, .int .i64 v4] 28)) w5.heap.size ⟨v0, v1, v2, v3, v4⟩) := Lib.hid (heap_alloc_new w5 _)
            have hs5 := hb5.size
            clear hl hl5 hb5 hx5 hbw5 HFk HX HBW hfv hfb
            unfold agg5
            dsimp only
            go_wp2_with fail
            refine (put_any (w.heap.size + 1) (w.heap.size + 1) v M ⟨f0, f1, f2, ⟨f3, f4, f5, f6, f7⟩⟩ _ HF5.out).mono ?_
            rintro e w6 ⟨rfl, v6, hf6, hk6, hat6⟩
            have hbw6 := HBW5.out.trans ((hk6.below HF5.out).mono (by omega))
            have hy6 : Bx5 w6 w5.heap.size ⟨v0, v1, v2, v3, v4⟩ := (hk6.block w5.heap.size (by rw [size_al]; omega) (by omega) (fun e => by have := (R8.lt HF0.out.2.1 _ e).2; omega)).trans HY5.out
            have HF6 := Lib.hid hf6
            have HY6 := Lib.hid hy6
            have HBW6 := Lib.hid hbw6
            have hs6 := hk6.size
            rw [size_al] at hs6
            clear hf6 hk6 hat6 hy6 hbw6 HF5 HX5 HBW5 HY5 p0 p1 p2 p3 p4 p5 p6 p7
            go_wp2_with fail
            refine (find2_any (w.heap.size + 1) (w.heap.size + 1) v6 _ a2 a3 a4 _ HF6.out).mono ?_
            rintro e w7 ⟨rfl, hb7⟩
            rw [HPA.out.1, HPA.out.2]
            have hl := (Below.refl w7.heap.size w7).alloc (Nat.le_refl _) (.cells #[.int .i64 v0, .int .i64 v1, .int .u64 v2, .int .u64 v3, .int .i64 v4] 28)
            have hs7 := hb7.size
            have hl7 := hb7.trans (hl.mono hb7.size)
            have hy7 := HY6.out.below hl7 (by omega)
            have hz7 : Bx5 (w7.alloc (.cells #[.int .i64 v0, .int .i64 v1, .int .u64 v2, .int .u64 v3, .int .i64 v4] 28)) w7.heap.size ⟨v0, v1, v2, v3, v4⟩ := heap_alloc_new w7 _
            have hbw7 := HBW6.out.trans (hl7.mono HBW6.out.size)
            have HBW7 := Lib.hid hbw7
            obtain ⟨y0, y1, y2, y3, y4⟩ := hy7.cells
            have hlt57 : w5.heap.size < w7.heap.size := by omega
            clear hl hl7 hb7 hy7 hz7 hbw7 HF6 HY6 HBW6 HPA HF0
            unfold agg5
            dsimp only
            have ceq : ∀ z : Int, (z == z) = true := fun z => by rw [beq_iff_eq]
            have cbq : ∀ z : Bool, (z == z) = true := fun z => by rw [beq_iff_eq]
            go_wp2_with fail
            refine (awake_any _).mono ?_
            rintro e w8 ⟨rfl, hb8⟩
            have hb9 := HBW7.out.trans (hb8.mono HBW7.out.size)
            clear hb8
            go_wp2
            go_ret
            exact ⟨rfl, hb9⟩
        · have ec := match_t (f0 == a2) (f2 == a4) (a2 != 1) (f1 == a3) em
          clear em
          rcases ec with ⟨e1, e2, e3⟩ | ⟨e1, e2, e3, e4⟩
          all_goals
            go_wp2_with fail
            refine (awake_any _).mono ?_
            rintro e w8 ⟨rfl, hb8⟩
            have hb9 := HBW.out.trans (hb8.mono HBW.out.size)
            clear hb8
            go_wp2
            go_ret
            exact ⟨rfl, hb9⟩

theorem own : ownKnob Try.prog.godebug = none := by kernel_rfl
theorem laidOut : laidOutB Try.prog = true := by kernel_rfl
set_option maxRecDepth 100000 in
theorem lifted (os : Os) (started : os.Started) (H : Type) (enc : TypeId × Value → H) :
    ReturnsInHanded {} Try.checked os 5 .any (Rows.bufferApartSpec.pre6 enc Try.prog Try.f5 Rows.bufferApartRow.domain false) (Rows.bufferApartSpec.post enc Try.prog Try.f5 false true false false) := by
  refine returnsInHanded_of_change (C := Try.checked) own started (by kernel_rfl) Try.func5
    (ChangeSpec.witness6 (enc := enc) (C := Try.checked) false ⟨#[], #[.slice none 0 0, .agg #[.int .i64 0, .int .i64 0, .int .i64 0, .int .i64 0, .int .i64 0, .int .u64 0, .int .u64 0, .int .i64 0], .int .i64 0, .int .i64 0, .int .i64 0], []⟩ 8 (by kernel_rfl) (by kernel_rfl) (by kernel_rfl) (by kernel_rfl)) ?_
  intro W base args ds gs before hval0 hW hcnd _
  have hval : ∀ (j : Nat) t v, Try.f5.params[j]? = some t → args[j]? = some v → Value.okWide Try.prog W .any base t v := hval0
  have hW' := hW
  obtain ⟨p, q, hA0, hV, rfl, hfz, hnd⟩ := hW
  have hA : DataW.TrodAll enc Try.prog W 0 (fun _ => true) true Try.f5.params.toList args.toList ds p := hA0
  rw [Try.params5] at hA hval
  obtain ⟨v0, vs0, d0, ds0, p0, q0, hargs, rfl, rfl, h0, r0⟩ := trodAll_cons hA
  obtain ⟨v1, vs1, d1, ds1, p1, q1, rfl, rfl, rfl, h1, r1⟩ := trodAll_cons r0
  obtain ⟨v2, vs2, d2, ds2, p2, q2, rfl, rfl, rfl, h2, r2⟩ := trodAll_cons r1
  obtain ⟨v3, vs3, d3, ds3, p3, q3, rfl, rfl, rfl, h3, r3⟩ := trodAll_cons r2
  obtain ⟨v4, vs4, d4, ds4, p4, q4, rfl, rfl, rfl, h4, r4⟩ := trodAll_cons r3
  obtain ⟨rfl, rfl, rfl⟩ := trodAll_nil r4
  obtain rfl : args = #[v0, v1, v2, v3, v4] := by cases args; simp_all
  obtain ⟨rfl, rfl⟩ := trodVars_none hV
  obtain ⟨a0, len0, cap0, rfl⟩ := okWide_slice Try.underlying32 (hval 0 32 v0 rfl rfl)
  have k0 := h0
  have lt0 : ∀ x ∈ p0, x.block < W.heap.size := by obtain ⟨m, hm⟩ := k0; exact DataW.trod_lt m _ _ _ hm
  obtain ⟨fuel0, hf0⟩ := h0
  obtain ⟨x0, ⟨A0, c0, e0, hc0, hr0⟩, ok0⟩ := Op.opens_slice (n := 31) Try.underlying32 (by kernel_rfl) (Ba.opens_w8) H enc W 0 _ _ _ _ _ hf0
  obtain ⟨rfl, rfl, rfl⟩ : a0 = A0 ∧ len0 = x0.length ∧ cap0 = c0 := by simpa [Value.cells] using e0
  have k1 := h1
  have lt1 : ∀ x ∈ p1, x.block < W.heap.size := by obtain ⟨m, hm⟩ := k1; exact DataW.trod_lt m _ _ _ hm
  obtain ⟨fuel1, hf1⟩ := h1
  obtain ⟨x1, hk1, ok1⟩ := (Ba.opens_w8) H enc W 0 _ _ _ _ _ hf1
  obtain rfl : v1 = Ba.agg8 x1 := Ba.agg8_of (hval 1 31 v1 rfl rfl) hk1
  obtain ⟨a2, rfl, rfl, rfl, w2⟩ := open_int Try.underlying3 (hval 2 3 v2 rfl rfl) h2
  obtain ⟨a3, rfl, rfl, rfl, w3⟩ := open_int Try.underlying3 (hval 3 3 v3 rfl rfl) h3
  obtain ⟨a4, rfl, rfl, rfl, w4⟩ := open_int Try.underlying3 (hval 4 3 v4 rfl rfl) h4
  clear hA0 hval0
  refine (walk W _ _ x0 hc0 hr0 ok0 x1 hk1 ok1 a2 w2 a3 w3 a4 w4).mono fun e W' ⟨he, bel⟩ => ?_
  subst he
  exact ⟨_, rfl, _, _, _, [], _, [], hW', trodAll_mk1 (shut_bool Try.underlying4 _), (trodAll_cons_mk (Below.trod laidOut (by kernel_rfl) (of_decide_eq_true (by kernel_rfl)) k0 bel lt0) (trodAll_cons_mk (Below.trod laidOut (by kernel_rfl) (of_decide_eq_true (by kernel_rfl)) k1 bel lt1) (trodAll_cons_mk (shut_int Try.underlying3 w2) (trodAll_cons_mk (shut_int Try.underlying3 w3) (trodAll_cons_mk (shut_int Try.underlying3 w4) trodAll_mk0))))), rfl, bel.frame _, fun h => by cases h⟩
theorem over : Rows.bufferApartRow.holds Try.pinned (OpenSpec.ofChange Rows.bufferApartSpec) :=
  OpenClaim.holds_of_wide 5 Try.f5 rfl rfl rfl rfl rfl rfl rfl ⟨rfl, rfl, rfl, rfl, rfl⟩ rfl rfl rfl rfl rfl (by kernel_rfl) Try.func5 (by kernel_rfl)
    (of_decide_eq_true (by kernel_rfl)) (by unfold Func.isWrapper; first | (rw [if_pos (by decide +kernel)]; kernel_rfl) | (rw [if_neg (by decide +kernel)]; exact ⟨rfl, rfl⟩))
    (fun os started H enc _ => lifted os started H enc)
theorem proved : Rows.BufferApartSaid := over
#print axioms proved
end Go.Proofs.Ytmdjbldmfmoaaaa.bufferApart
