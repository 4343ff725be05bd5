/- New, light, awake. -/
import Derived.Test.YtlmlckidgfnhdaaMy
import Derived.Test.YtlmlckidgfnhdaaOw
import Derived.Deep.DeepMust
namespace Go.Proofs.Ytlmlckidgfnhdaa.Nw
open Go.RowKit Go.ChangeShapes Go.WideShapes Go.Proofs.YtlmlckidgfnhdaaW.PrintWords Go.Proofs.Ytlmlckidgfnhdaa.Ba Go.Proofs.Ytlmlckidgfnhdaa.Kw Go.Proofs.Ytlmlckidgfnhdaa.Kx Go.Proofs.Ytlmlckidgfnhdaa.Pl Go.Proofs.Ytlmlckidgfnhdaa.Pc Go.Proofs.Ytlmlckidgfnhdaa.My
set_option linter.unusedVariables false
set_option linter.unusedSimpArgs false
theorem kM_len {x : List Int} (h : kM x = true) : 0 < x.length ∧ x.length ≤ 15 := by
  unfold kM kW at h
  constructor
  · rcases Nat.eq_zero_or_pos x.length with h0 | h0
    · rw [if_pos h0] at h; simp at h
    · exact h0
  · rcases Nat.lt_or_ge 15 x.length with h1 | h1
    · rw [if_neg (by omega), if_pos h1] at h; simp at h
    · exact h1
theorem arg_len {c : Cf} (h : Arg c) : ∀ x ∈ c.ks, 0 < x.length ∧ x.length ≤ 100 := by
  intro x hx
  have h1 := List.all_eq_true.1 h.k x hx
  have := kM_len h1
  omega
/-- A layout, as it lies in block g. -/
def LAt (w : World) (g : Nat) (A : Option Addr) (k : Nat) (c : Cf) : Prop :=
  w.heap[g]? = some (.cells #[.slice A c.ks.length k, .int .i64 c.b0, .int .i64 c.b1, .int .i64 c.b2, .int .i64 c.b3, .int .i64 c.ro, .int .i64 c.we, .int .i64 c.lg, .int .i64 (rootsA c), .int .i64 (bitsA c), .int .i64 (logA c), .int .i64 (blocksA c), .int .i64 (wordsA c)] 64 (0, 0))
theorem LAt.below {w w' : World} {g : Nat} {A : Option Addr} {k : Nat} {c : Cf} (h : LAt w g A k c) (hb : Below w.heap.size w w') : LAt w' g A k c := blk_below h hb
theorem LAt.lt {w : World} {g : Nat} {A : Option Addr} {k : Nat} {c : Cf} (h : LAt w g A k c) : g < w.heap.size := blk_lt h
def NewPost (c : Cf) (w : World) (e : Ending) (w' : World) : Prop := Below w.heap.size w w' ∧ ((mayE c = 0 ∧ ∃ g A k, e = .returned (.tuple #[.pointer (some ⟨g, 0, none⟩), .int .i64 0]) ∧ LAt w' g A k c ∧ Ks w' A c.ks ∧ c.ks.length ≤ k ∧ w.heap.size ≤ g) ∨
  (mayE c ≠ 0 ∧ e = .returned (.tuple #[.pointer none, .int .i64 (mayE c)])))
set_option maxHeartbeats 8000000 in
set_option maxRecDepth 20000 in
theorem new_any (A : Option Addr) (k : Nat) (ks : List (List Int)) (b0 b1 b2 b3 ro we lg : Int) (w : World) (hk : Ks w A ks) :
    Calls Try.prog 11 #[.agg #[.slice A ks.length k, .int .i64 b0, .int .i64 b1, .int .i64 b2, .int .i64 b3, .int .i64 ro, .int .i64 we, .int .i64 lg]] w (NewPost ⟨ks, b0, b1, b2, b3, ro, we, lg⟩ w) := by
  have HB0 := Lib.hid ((Below.refl w.heap.size w).alloc (Nat.le_refl _) (.cells #[.slice A ks.length k, .int .i64 b0, .int .i64 b1, .int .i64 b2, .int .i64 b3, .int .i64 ro, .int .i64 we, .int .i64 lg] 25))
  have HX0 := Lib.hid (heap_alloc_new w (.cells #[.slice A ks.length k, .int .i64 b0, .int .i64 b1, .int .i64 b2, .int .i64 b3, .int .i64 ro, .int .i64 we, .int .i64 lg] 25))
  have HKS := Lib.hid (hk.old HB0.out.block)
  have HM := Lib.hid (may_any A k ks b0 b1 b2 b3 ro we lg _ HKS.out)
  have HZ : Hid (mayE ⟨ks, b0, b1, b2, b3, ro, we, lg⟩ = 0 → Arg ⟨ks, b0, b1, b2, b3, ro, we, lg⟩) := Lib.hid (fun h => (mayE_zero h).1)
  have HDEF : Hid (∀ e w', Below w.heap.size w w' ∧ ((mayE ⟨ks, b0, b1, b2, b3, ro, we, lg⟩ = 0 ∧ ∃ g A k, e = .returned (.tuple #[.pointer (some ⟨g, 0, none⟩), .int .i64 0]) ∧ LAt w' g A k ⟨ks, b0, b1, b2, b3, ro, we, lg⟩ ∧ Ks w' A ks ∧ ks.length ≤ k ∧ w.heap.size ≤ g) ∨ (mayE ⟨ks, b0, b1, b2, b3, ro, we, lg⟩ ≠ 0 ∧ e = .returned (.tuple #[.pointer none, .int .i64 (mayE ⟨ks, b0, b1, b2, b3, ro, we, lg⟩)]))) → NewPost ⟨ks, b0, b1, b2, b3, ro, we, lg⟩ w e w') := Lib.hid (fun _ _ h => h)
  obtain ⟨E, hE⟩ : ∃ E, mayE ⟨ks, b0, b1, b2, b3, ro, we, lg⟩ = E := ⟨_, rfl⟩
  rw [hE] at HM HZ HDEF
  obtain ⟨p0, p1, p2, p3, p4, p5, p6, p7⟩ := cells8 HX0.out
  clear hE hk
  by_cases h0 : E = 0
  · subst h0
    have hA := HZ.out rfl
    have HA := Lib.hid hA
    have HLN := Lib.hid (arg_len hA)
    have h16 := hA.k1
    dsimp only at h16
    clear hA
    go_enter Try.func11, Try.ntmps11
    go_wp2_with fail
    refine HM.out.mono ?_
    rintro e w1 ⟨rfl, hb1⟩
    have HB1 := Lib.hid (HB0.out.trans (hb1.mono HB0.out.size))
    have HX1 := Lib.hid (blk_below HX0.out hb1)
    have HO := Lib.hid (Ow.own_any A k ks b0 b1 b2 b3 ro we lg w1 (HKS.out.old hb1.block) (by omega) HLN.out)
    clear hb1 p0 p1 p2 p3 p4 p5 p6 p7
    obtain ⟨p0, p1, p2, p3, p4, p5, p6, p7⟩ := cells8 HX1.out
    go_wp2_with fail
    refine HO.out.mono ?_
    rintro e w2 ⟨A', k', rfl, hk', hks', hb2⟩
    have HB2 := Lib.hid (HB1.out.trans (hb2.mono HB1.out.size))
    have HKS2 := Lib.hid hks'
    have HP := Lib.hid (place_any A' k' ks b0 b1 b2 b3 ro we lg w2 HA.out.fit)
    clear hb2 hks'
    go_wp2_with fail
    refine HP.out.mono ?_
    rintro e w3 ⟨rfl, hb3, hx3⟩
    have HB3 := Lib.hid (HB2.out.trans (hb3.mono HB2.out.size))
    have HX3 := Lib.hid hx3
    have HKS3 := Lib.hid (HKS2.out.old hb3.block)
    clear hb3 hx3
    go_wp2
    go_ret2
    exact HDEF.out _ _ ⟨HB3.out, .inl ⟨by first | rfl | trivial, _, A', k', rfl, HX3.out, HKS3.out, hk', by have := HB2.out.size; omega⟩⟩
  · have be : (E == 0) = false := beq_eq_false_iff_ne.2 h0
    have bn : (E != 0) = true := bne_iff_ne.2 h0
    go_enter Try.func11, Try.ntmps11
    go_wp2_with fail
    refine HM.out.mono ?_
    rintro e w1 ⟨rfl, hb1⟩
    have HB1 := Lib.hid (HB0.out.trans (hb1.mono HB0.out.size))
    clear hb1
    go_wp2
    go_ret2
    exact HDEF.out _ _ ⟨HB1.out, .inr ⟨h0, rfl⟩⟩
def lightB (ks : List (List Int)) : Bool := decide (ks.length ≤ 40) && ks.all (fun x => decide (x.length ≤ 40))
set_option maxHeartbeats 8000000 in
theorem light_any (A : Option Addr) (k : Nat) (ks : List (List Int)) (b0 b1 b2 b3 ro we lg : Int) (w : World) (hk : Ks w A ks) :
    Calls Try.prog 8 #[.agg #[.slice A ks.length k, .int .i64 b0, .int .i64 b1, .int .i64 b2, .int .i64 b3, .int .i64 ro, .int .i64 we, .int .i64 lg]] w (BoolPost (lightB ks) w) := by
  have HB0 := Lib.hid ((Below.refl w.heap.size w).alloc (Nat.le_refl _) (.cells #[.slice A ks.length k, .int .i64 b0, .int .i64 b1, .int .i64 b2, .int .i64 b3, .int .i64 ro, .int .i64 we, .int .i64 lg] 25))
  have HX0 := Lib.hid (heap_alloc_new w (.cells #[.slice A ks.length k, .int .i64 b0, .int .i64 b1, .int .i64 b2, .int .i64 b3, .int .i64 ro, .int .i64 we, .int .i64 lg] 25))
  have HKS := Lib.hid (hk.old HB0.out.block)
  have hz54 : ∀ w, (zeroValue 54).run Try.prog w = .ok (.agg #[.slice none 0 0]) w := fun w => by kernel_rfl
  obtain ⟨p0, p1, p2, p3, p4, p5, p6, p7⟩ := cells8 HX0.out
  clear hk
  by_cases h40 : 40 < ks.length
  · have e : lightB ks = false := by unfold lightB; rw [decide_eq_false (by omega)]; rfl
    rw [e]
    clear e
    go_enter Try.func8, Try.ntmps8
    go_wp2
    go_ret
    exact ⟨rfl, HB0.out⟩
  have HLB : Hid (lightB ks = ks.all (fun x => decide (x.length ≤ 40))) := Lib.hid (by unfold lightB; rw [decide_eq_true (by omega)]; rfl)
  obtain ⟨w0, hw0⟩ : ∃ w0, w.alloc (.cells #[.slice A ks.length k, .int .i64 b0, .int .i64 b1, .int .i64 b2, .int .i64 b3, .int .i64 ro, .int .i64 we, .int .i64 lg] 25) = w0 := ⟨_, rfl⟩
  rw [hw0] at HB0 HX0 HKS p0 p1 p2 p3 p4 p5 p6 p7
  go_enter Try.func8, Try.ntmps8
  go_wp2
  go_loopw [12] (fun i wr => ∃ j : Nat, j ≤ ks.length ∧ i = .int .i64 (j : Int) ∧ (ks.take j).all (fun x => decide (x.length ≤ 40)) = true ∧ Below w0.heap.size w0 wr) (fun i _ => ks.length - (intOf i).toNat)
  case atStart => exact ⟨0, by omega, rfl, rfl, Below.refl _ _⟩
  case round =>
    obtain ⟨j, hj, rfl, hall, hb⟩ := hrel
    have HAL := Lib.hid hall
    have HB4 := Lib.hid hb
    clear hall p0 p1 p2 p3 p4 p5 p6 p7
    by_cases hlt : j < ks.length
    · obtain ⟨ad, rfl, A1, c1, hc, hl1, hr⟩ := HKS.out.old hb.block j hlt
      have HS := Lib.hid (all_take_snoc (p := fun x : List Int => decide (x.length ≤ 40)) (d := ([] : List Int)) HAL.out hlt)
      have HN := Lib.hid (all_no (p := fun x : List Int => decide (x.length ≤ 40)) (l := ks) (d := ([] : List Int)) (k := j))
      obtain ⟨f, hf⟩ : ∃ f, ks.getD j [] = f := ⟨_, rfl⟩
      rw [hf] at hc HS HN hr hl1
      have HB5 := Lib.hid (hb.alloc hb.size (.cells #[.slice A1 f.length c1] 54))
      clear hb hf hr
      by_cases em : 40 < f.length
      · have HE : Hid (lightB ks = false) := Lib.hid (by rw [HLB.out]; exact HN.out (decide_eq_false (by omega)) hlt)
        have HB1 := Lib.hid (HB0.out.trans (HB5.out.mono HB0.out.size))
        clear HS HN
        go_wp2
        go_ret
        rw [HE.out]
        exact ⟨rfl, HB1.out⟩
      · have HSD : Hid ((ks.take (j + 1)).all (fun x => decide (x.length ≤ 40)) = true) := Lib.hid (by rw [HS.out]; exact decide_eq_true (by omega))
        clear HS HN
        go_wp2
        go_roundw
        case rel => exact ⟨j + 1, by omega, by go_num, HSD.out, HB5.out⟩
        case measure => simp [intOf]; omega
    · obtain rfl : j = ks.length := by omega
      have HE : Hid (lightB ks = true) := Lib.hid (by rw [HLB.out]; have := HAL.out; rw [List.take_length] at this; exact this)
      have HB1 := Lib.hid (HB0.out.trans (HB4.out.mono HB0.out.size))
      go_wp2
      go_ret
      rw [HE.out]
      exact ⟨rfl, HB1.out⟩
/-- Words. -/
theorem words_any (g : Nat) (A : Option Addr) (k : Nat) (c : Cf) (w : World) (h : LAt w g A k c) : Calls Try.prog 12 #[.pointer (some ⟨g, 0, none⟩)] w fun e w' => e = .returned (.int .i64 (wordsA c)) ∧ w = w' := by
  have c12 : w.cell? ⟨g, 12, none⟩ = some (.int .i64 (wordsA c)) := by rw [blk_cell h]; rfl
  obtain ⟨v, hv⟩ : ∃ v, wordsA c = v := ⟨_, rfl⟩
  rw [hv] at c12 ⊢
  clear h hv
  go_enter Try.func12, Try.ntmps12
  go_wp2
  go_ret
  exact ⟨rfl, rfl⟩
theorem words_nil (w : World) : Calls Try.prog 12 #[.pointer none] w fun e w' => e = .returned (.int .i64 0) ∧ w = w' := by
  go_enter Try.func12, Try.ntmps12
  go_wp2
  go_ret
  exact ⟨rfl, rfl⟩
end Go.Proofs.Ytlmlckidgfnhdaa.Nw
