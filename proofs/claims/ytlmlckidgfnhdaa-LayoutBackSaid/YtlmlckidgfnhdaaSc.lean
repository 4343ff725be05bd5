/- Rows of ints, types, configs: the same? -/
import Derived.Test.YtlmlckidgfnhdaaPc
import Derived.Deep.RegionLaw
import Derived.Deep.DeepMust
import Derived.ChangeKeysEq
namespace Go.Proofs.Ytlmlckidgfnhdaa.Sc2
open Go.RowKit Go.ChangeShapes Go.WideShapes Go.Proofs.YtlmlckidgfnhdaaW.PrintWords Go.Proofs.Ytlmlckidgfnhdaa.Ba Go.Proofs.Ytlmlckidgfnhdaa.Pc
set_option linter.unusedVariables false
set_option linter.unusedSimpArgs false
theorem ne_at {xs ys : List Int} {k : Nat} (h : xs.getD k 0 ≠ ys.getD k 0) : decide (xs = ys) = false := decide_eq_false (fun e => h (by rw [e]))
theorem eq_all {xs ys : List Int} (hl : xs.length = ys.length) (h : ∀ t, t < xs.length → xs.getD t 0 = ys.getD t 0) : xs = ys := by
  refine List.ext_getElem hl fun i h1 h2 => ?_
  have := h i h1
  rw [List.getD_eq_getElem?_getD, List.getElem?_eq_getElem h1, List.getD_eq_getElem?_getD, List.getElem?_eq_getElem h2] at this
  exact this
set_option maxHeartbeats 4000000 in
set_option maxRecDepth 20000 in
theorem sameints_any (A B : Option Addr) (c d : Nat) (xs ys : List Int) (w : World) (hx : Rd w A xs) (hy : Rd w B ys) (h100 : xs.length ≤ 100000) : Calls Try.prog 54 #[.slice A xs.length c, .slice B ys.length d] w (BoolPost (decide (xs = ys)) w) := by
  have HXS := Lib.hid hx
  have HYS := Lib.hid hy
  clear hx hy
  by_cases hl : xs.length = ys.length
  · have HL := Lib.hid hl
    rw [← hl]
    clear hl
    go_enter Try.func54, Try.ntmps54
    go_wp2
    go_loopw [13] (fun i wr => ∃ k : Nat, k ≤ xs.length ∧ i = .int .i64 (k : Int) ∧ (∀ t, t < k → xs.getD t 0 = ys.getD t 0) ∧ Below w.heap.size w wr) (fun i _ => xs.length - (intOf i).toNat)
    case atStart => exact ⟨0, by omega, rfl, fun t ht => by omega, Below.refl _ _⟩
    case round =>
      obtain ⟨k, hk, rfl, hal, hb⟩ := hrel
      have HAL := Lib.hid hal
      have HB := Lib.hid hb
      clear hal
      by_cases hlt : k < xs.length
      · obtain ⟨ad, rfl, hp⟩ := HXS.out.below hb.block k hlt
        obtain ⟨bd, rfl, hq⟩ := HYS.out.below hb.block k (by have := HL.out; omega)
        have HNE := Lib.hid (ne_at (xs := xs) (ys := ys) (k := k))
        have HNX : Hid (xs.getD k 0 = ys.getD k 0 → ∀ t, t < k + 1 → xs.getD t 0 = ys.getD t 0) := Lib.hid (fun h t ht => by
          rcases Nat.lt_or_ge t k with h1 | h1
          · exact HAL.out t h1
          · rw [show t = k by omega]; exact h)
        obtain ⟨x, hx⟩ : ∃ x, xs.getD k 0 = x := ⟨_, rfl⟩
        obtain ⟨y, hy⟩ : ∃ y, ys.getD k 0 = y := ⟨_, rfl⟩
        rw [hx] at hp HNE HNX
        rw [hy] at hq HNE HNX
        clear hx hy hb
        by_cases he : x = y
        · have HN2 := Lib.hid (HNX.out he)
          subst he
          have b0 : (x != x) = false := by simp
          go_wp2
          go_region
          all_goals
            go_wp2
            go_roundw
            case rel => exact ⟨k + 1, by omega, by go_num, HN2.out, HB.out.drew⟩
            case measure => simp [intOf]; omega
        · have HF := Lib.hid (HNE.out he)
          have b0 : (x == y) = false := beq_eq_false_iff_ne.2 he
          have b1 : (x != y) = true := bne_iff_ne.2 he
          go_wp2
          go_region
          all_goals
            go_wp2
            go_ret
            rw [HF.out]
            exact ⟨rfl, HB.out.drew⟩
      · obtain rfl : k = xs.length := by omega
        have HT : Hid (decide (xs = ys) = true) := Lib.hid (decide_eq_true (eq_all HL.out HAL.out))
        go_wp2
        go_ret
        rw [HT.out]
        exact ⟨rfl, HB.out⟩
  · have HF : Hid (decide (xs = ys) = false) := Lib.hid (decide_eq_false (fun e => hl (by rw [e])))
    have b0 : ((xs.length : Int) == (ys.length : Int)) = false := beq_eq_false_iff_ne.2 (by omega)
    have b1 : ((xs.length : Int) != (ys.length : Int)) = true := bne_iff_ne.2 (by omega)
    go_enter Try.func54, Try.ntmps54
    go_wp2
    go_ret
    rw [HF.out]
    exact ⟨rfl, Below.refl _ _⟩
theorem samekind_any (A B : Option Addr) (c d : Nat) (xs ys : List Int) (w : World) (hx : Rd w A xs) (hy : Rd w B ys) (h100 : xs.length ≤ 100000) : Calls Try.prog 40 #[.agg #[.slice A xs.length c], .agg #[.slice B ys.length d]] w (BoolPost (decide (xs = ys)) w) := by
  have hb : Below w.heap.size w ((w.alloc (.cells #[.slice A xs.length c] 54)).alloc (.cells #[.slice B ys.length d] 54)) := ((Below.refl _ _).alloc (Nat.le_refl _) _).alloc (by simp) _
  have HB := Lib.hid hb
  have HC := Lib.hid (sameints_any A B c d xs ys _ (hx.below hb.block) (hy.below hb.block) h100)
  clear hb hx hy
  go_enter Try.func40, Try.ntmps40
  go_wp2_with fail
  refine HC.out.mono ?_
  rintro e w1 ⟨rfl, hb1⟩
  have HB1 := Lib.hid (HB.out.trans (hb1.mono HB.out.size))
  clear hb1
  go_wp2
  go_ret
  exact ⟨rfl, HB1.out⟩
theorem eqarr (x0 x1 x2 x3 y0 y1 y2 y3 : Int) (W : World) : (Op.equalIn 10000 23 (.agg #[.int .i64 x0, .int .i64 x1, .int .i64 x2, .int .i64 x3]) (.agg #[.int .i64 y0, .int .i64 y1, .int .i64 y2, .int .i64 y3])).run Try.prog W = .ok (x0 == y0 && (x1 == y1 && (x2 == y2 && x3 == y3))) W := by
  have hd : ∀ (d : Nat) (a b : Int), (Op.equalIn (d + 1) 3 (.int .i64 a) (.int .i64 b)).run Try.prog W = .ok (a == b) W := fun d a b => by
    simp [Op.equalIn, run_underlying Try.underlying3]
  have he : ∀ a b : Int, (Op.equalIn 9999 3 (.int .i64 a) (.int .i64 b)).run Try.prog W = .ok (a == b) W := fun a b => hd 9998 a b
  have hc : Try.prog.cellsOf 3 = 1 := by kernel_rfl
  have hp : ∀ a b c d : Int, (part 3 #[.int .i64 a, .int .i64 b, .int .i64 c, .int .i64 d] 0).run Try.prog W = .ok (.int .i64 a) W ∧ (part 3 #[.int .i64 a, .int .i64 b, .int .i64 c, .int .i64 d] 1).run Try.prog W = .ok (.int .i64 b) W ∧
      (part 3 #[.int .i64 a, .int .i64 b, .int .i64 c, .int .i64 d] 2).run Try.prog W = .ok (.int .i64 c) W ∧ (part 3 #[.int .i64 a, .int .i64 b, .int .i64 c, .int .i64 d] 3).run Try.prog W = .ok (.int .i64 d) W :=
    fun a b c d => ⟨by kernel_rfl, by kernel_rfl, by kernel_rfl, by kernel_rfl⟩
  obtain ⟨i, hi⟩ : ∃ i, Try.prog.info? 3 = some i := by
    have h := info3
    cases e : Try.prog.info? 3 with
    | none => rw [e] at h; cases h
    | some i => exact ⟨i, rfl⟩
  obtain ⟨p0, p1, p2, p3⟩ := hp x0 x1 x2 x3
  obtain ⟨q0, q1, q2, q3⟩ := hp y0 y1 y2 y3
  rw [show (10000 : Nat) = 9999 + 1 from rfl, run_equalIn_array W 9999 _ _ Try.underlying23 hi, show List.range 4 = [0, 1, 2, 3] from rfl, hc]
  have e0 := he x0 y0
  have e1 := he x1 y1
  have e2 := he x2 y2
  have e3 := he x3 y3
  generalize (x0 == y0) = r0 at e0 ⊢
  generalize (x1 == y1) = r1 at e1 ⊢
  generalize (x2 == y2) = r2 at e2 ⊢
  generalize (x3 == y3) = r3 at e3 ⊢
  clear he hd hp
  cases r0 <;> cases r1 <;> cases r2 <;> cases r3 <;> simp only [Op.eqItems, Sem.run_bind, Nat.mul_one, p0, p1, p2, p3, q0, q1, q2, q3, e0, e1, e2, e3, Result.andThen_ok, Bool.not_true, Bool.not_false, Bool.false_eq_true, if_true, if_false, Sem.run_pure, Bool.and_true, Bool.and_false, Bool.and_self]
set_option maxHeartbeats 8000000 in
set_option maxRecDepth 20000 in
theorem samecfg_self (A B : Option Addr) (k k' : Nat) (ks : List (List Int)) (b0 b1 b2 b3 ro we lg : Int) (w : World) (ha : Ks w A ks) (hbk : Ks w B ks) (hkl : ks.length ≤ 1000) (hfl : ∀ x ∈ ks, x.length ≤ 1000) :
    Calls Try.prog 18 #[.agg #[.slice A ks.length k, .int .i64 b0, .int .i64 b1, .int .i64 b2, .int .i64 b3, .int .i64 ro, .int .i64 we, .int .i64 lg], .agg #[.slice B ks.length k', .int .i64 b0, .int .i64 b1, .int .i64 b2, .int .i64 b3, .int .i64 ro, .int .i64 we, .int .i64 lg]] w (BoolPost true w) := by
  have ke : ∀ W : World, (binOp .neq 23 (.agg #[.int .i64 b0, .int .i64 b1, .int .i64 b2, .int .i64 b3]) (.agg #[.int .i64 b0, .int .i64 b1, .int .i64 b2, .int .i64 b3])).run Try.prog W = .ok (.bool false) W := fun W => by go_simp; rw [eqarr]; simp
  obtain ⟨w0, hw0⟩ : ∃ w0, (w.alloc (.cells #[.slice A ks.length k, .int .i64 b0, .int .i64 b1, .int .i64 b2, .int .i64 b3, .int .i64 ro, .int .i64 we, .int .i64 lg] 25)).alloc (.cells #[.slice B ks.length k', .int .i64 b0, .int .i64 b1, .int .i64 b2, .int .i64 b3, .int .i64 ro, .int .i64 we, .int .i64 lg] 25) = w0 := ⟨_, rfl⟩
  have HB0 : Hid (Below w.heap.size w w0) := Lib.hid (by rw [← hw0]; exact ((Below.refl _ _).alloc (Nat.le_refl _) _).alloc (by simp) _)
  have HXA : Hid (w0.heap[w.heap.size]? = some (.cells #[.slice A ks.length k, .int .i64 b0, .int .i64 b1, .int .i64 b2, .int .i64 b3, .int .i64 ro, .int .i64 we, .int .i64 lg] 25 (0, 0))) := Lib.hid (by rw [← hw0]; exact blk_alloc (heap_alloc_new w _) _)
  have HXB : Hid (w0.heap[w.heap.size + 1]? = some (.cells #[.slice B ks.length k', .int .i64 b0, .int .i64 b1, .int .i64 b2, .int .i64 b3, .int .i64 ro, .int .i64 we, .int .i64 lg] 25 (0, 0))) := Lib.hid (by rw [← hw0, ← size_al w (.cells #[.slice A ks.length k, .int .i64 b0, .int .i64 b1, .int .i64 b2, .int .i64 b3, .int .i64 ro, .int .i64 we, .int .i64 lg] 25)]; exact heap_alloc_new _ _)
  have HKA := Lib.hid (ha.old HB0.out.block)
  have HKB := Lib.hid (hbk.old HB0.out.block)
  have HFL := Lib.hid hfl
  obtain ⟨p0, p1, p2, p3, p4, p5, p6, p7⟩ := cells8 HXA.out
  obtain ⟨r0, r1, r2, r3, r4, r5, r6, r7⟩ := cells8 HXB.out
  have n0 : (ro != ro) = false := by simp
  have n1 : (we != we) = false := by simp
  have n2 : (lg != lg) = false := by simp
  clear ha hbk hfl
  go_enter Try.func18, Try.ntmps18
  go_wp2
  go_loopw [44] (fun i wr => ∃ j : Nat, j ≤ ks.length ∧ i = .int .i64 (j : Int) ∧ Below w0.heap.size w0 wr) (fun i _ => ks.length - (intOf i).toNat)
  case atStart => exact ⟨0, by omega, rfl, Below.refl _ _⟩
  case round =>
    obtain ⟨j, hj, rfl, hb⟩ := hrel
    have HB := Lib.hid hb
    clear p0 p1 p2 p3 p4 p5 p6 p7 r0 r1 r2 r3 r4 r5 r6 r7
    by_cases hlt : j < ks.length
    · obtain ⟨ad, rfl, A1, c1, hc, hl1, hr⟩ := HKA.out.old hb.block j hlt
      obtain ⟨bd, rfl, B1, d1, hd, hl2, hr2⟩ := HKB.out.old hb.block j hlt
      have hf := HFL.out _ (mem_getD (d := ([] : List Int)) hlt)
      obtain ⟨f, hfe⟩ : ∃ f, ks.getD j [] = f := ⟨_, rfl⟩
      rw [hfe] at hc hd hr hr2 hf hl1 hl2
      have hsk := samekind_any A1 B1 c1 d1 f f wr.drew hr hr2 (by omega)
      rw [show decide (f = f) = true by simp] at hsk
      have HSK := Lib.hid hsk
      have p0 : wr.drew.cell? ⟨w.heap.size, 0, none⟩ = some (.slice (some ad) ks.length k) := (blk_cell (blk_below HXA.out hb) 0).trans rfl
      have r0 : wr.drew.cell? ⟨w.heap.size + 1, 0, none⟩ = some (.slice (some bd) ks.length k') := (blk_cell (blk_below HXB.out hb) 0).trans rfl
      have hc' : wr.drew.cell? (ad.add j) = some (.slice A1 f.length c1) := hc
      have hd' : wr.drew.cell? (bd.add j) = some (.slice B1 f.length d1) := hd
      clear hsk hb hfe hr hr2 hl1 hl2
      go_wp2
      go_region_held3 (fun w' => w'.cell? ⟨w.heap.size, 0, none⟩ = some (.slice (some ad) ks.length k) ∧ w'.cell? ⟨w.heap.size + 1, 0, none⟩ = some (.slice (some bd) ks.length k') ∧ w'.cell? (ad.add j) = some (.slice A1 f.length c1) ∧ w'.cell? (bd.add j) = some (.slice B1 f.length d1))
        (first | (refine ⟨?_, ?_, ?_, ?_⟩ <;> assumption) | go_keep)
        (first | (go_at_call 40; go_must (refine HSK.out.mono ?_; rintro e w6 ⟨rfl, hb6⟩; have s0 := cell_old p0 hb6.block; have s1 := cell_old r0 hb6.block; have s2 := cell_old hc' hb6.block; have s3 := cell_old hd' hb6.block)) | fail)
      all_goals
        have HB6 : Hid (Below w0.heap.size w0 w6) := Lib.hid (HB.out.drew.trans (hb6.mono HB.out.drew.size))
        clear hb6 s0 s1 s2 s3
        go_wp2
        go_roundw
        case rel => exact ⟨j + 1, by omega, by go_num, HB6.out⟩
        case measure => simp [intOf]; omega
    · obtain rfl : j = ks.length := by omega
      have HBF := Lib.hid (HB0.out.trans (HB.out.mono HB0.out.size))
      go_wp2
      go_ret
      exact ⟨rfl, HBF.out⟩
end Go.Proofs.Ytlmlckidgfnhdaa.Sc2
