/- Types: words of a field, of a type; may it be; the program's and the reference's. -/
import Derived.Test.YtlmlckidgfnhdaaBase
namespace Go.Proofs.Ytlmlckidgfnhdaa.Kw
open Go.RowKit Go.ChangeShapes Go.WideShapes Go.Proofs.YtlmlckidgfnhdaaW.PrintWords Go.Proofs.Ytlmlckidgfnhdaa.Ba
set_option linter.unusedVariables false
def fw (f : Int) : Int := if f = 1 then 1 else if f = 3 then 1 else if f = 2 then 2 else 0
def sw (l : List Int) : Int := (l.map fw).sum
def kW (l : List Int) : Int := if l.length = 0 then 0 else if 15 < l.length then 0 else if l.all (fun f => decide (fw f ≠ 0)) then 1 + sw l else 0
def kM (l : List Int) : Bool := decide (0 < kW l) && decide (kW l ≤ 16)
theorem fw_b (f : Int) : 0 ≤ fw f ∧ fw f ≤ 2 := by unfold fw; repeat' split; all_goals omega
theorem sw_snoc (l : List Int) (f : Int) : sw (l ++ [f]) = sw l + fw f := by simp [sw]
theorem sw_b (l : List Int) : 0 ≤ sw l ∧ sw l ≤ 2 * l.length := by
  induction l with
  | nil => simp [sw]
  | cons a l ih =>
    have := fw_b a
    have e : sw (a :: l) = fw a + sw l := by simp [sw]
    rw [e, List.length_cons]
    omega
theorem kW_b (l : List Int) : 0 ≤ kW l ∧ kW l ≤ 31 := by
  have := sw_b l
  unfold kW
  repeat' split
  all_goals omega
theorem line_eq {x : Int} (h0 : 0 ≤ x) (h1 : x ≤ 1000000) : True := trivial
theorem words_any (f : Int) (w : World) : Calls Try.prog 59 #[.int .i64 f] w fun e w' => e = .returned (.int .i64 (fw f)) ∧ w = w' := by
  by_cases h1 : f = 1
  · subst h1
    go_enter Try.func59, Try.ntmps59
    go_wp2
    go_ret
    exact ⟨rfl, rfl⟩
  by_cases h3 : f = 3
  · subst h3
    go_enter Try.func59, Try.ntmps59
    go_wp2
    go_ret
    exact ⟨rfl, rfl⟩
  by_cases h2 : f = 2
  · subst h2
    go_enter Try.func59, Try.ntmps59
    go_wp2
    go_ret
    exact ⟨rfl, rfl⟩
  have e : fw f = 0 := by unfold fw; rw [if_neg h1, if_neg h3, if_neg h2]
  have b1 : (f == 1) = false := beq_eq_false_iff_ne.2 h1
  have b2 : (f == 2) = false := beq_eq_false_iff_ne.2 h2
  have b3 : (f == 3) = false := beq_eq_false_iff_ne.2 h3
  rw [e]
  clear e h1 h2 h3
  go_enter Try.func59, Try.ntmps59
  go_wp2
  go_ret
  exact ⟨rfl, rfl⟩
set_option maxHeartbeats 4000000 in
theorem kwords_any (A : Option Addr) (c : Nat) (l : List Int) (w : World) (h : Rd w A l) : Calls Try.prog 57 #[.agg #[.slice A l.length c]] w (IntPost (kW l) w) := by
  have HR := Lib.hid h
  have HB := Lib.hid ((Below.refl w.heap.size w).alloc (Nat.le_refl _) (.cells #[.slice A l.length c] 54))
  clear h
  by_cases h0 : l.length = 0
  · have e : kW l = 0 := by unfold kW; rw [if_pos h0]
    rw [e, h0]
    rw [h0] at HB
    clear e
    go_enter Try.func57, Try.ntmps57
    go_wp2
    go_ret
    exact ⟨rfl, HB.out⟩
  have b0 : ((l.length : Int) == 0) = false := beq_eq_false_iff_ne.2 (by omega)
  by_cases h15 : 15 < l.length
  · have e : kW l = 0 := by unfold kW; rw [if_neg h0, if_pos h15]
    rw [e]
    clear e
    go_enter Try.func57, Try.ntmps57
    go_wp2
    go_ret
    exact ⟨rfl, HB.out⟩
  have HE : Hid (kW l = if l.all (fun f => decide (fw f ≠ 0)) then 1 + sw l else 0) := Lib.hid (by unfold kW; rw [if_neg h0, if_neg h15])
  go_enter Try.func57, Try.ntmps57
  go_wp2
  go_loopw [3, 19] (fun n i wr => ∃ k : Nat, k ≤ l.length ∧ i = .int .i64 (k : Int) ∧ n = .int .i64 (1 + sw (l.take k)) ∧ (l.take k).all (fun f => decide (fw f ≠ 0)) = true ∧ Below w.heap.size w wr) (fun _ i _ => l.length - (intOf i).toNat)
  case atStart => exact ⟨0, by omega, rfl, rfl, rfl, HB.out⟩
  case round =>
    obtain ⟨k, hk, rfl, rfl, hall, hb⟩ := hrel
    have HAL := Lib.hid hall
    have HB4 := Lib.hid hb
    clear hall
    by_cases hlt : k < l.length
    · obtain ⟨ad, rfl, hc⟩ := HR.out.below hb.block k hlt
      have HS := Lib.hid (all_take_snoc (d := (0 : Int)) HAL.out hlt)
      have HN := Lib.hid (all_no (p := fun f => decide (fw f ≠ 0)) (l := l) (d := (0 : Int)) (k := k))
      have HW := Lib.hid (show sw (l.take (k + 1)) = sw (l.take k) + fw (l.getD k 0) by rw [take_snoc l 0 k hlt, sw_snoc])
      obtain ⟨f, hf⟩ : ∃ f, l.getD k 0 = f := ⟨_, rfl⟩
      rw [hf] at hc HS HN HW
      have hfb := fw_b f
      have hsb := sw_b (l.take k)
      rw [List.length_take_of_le hk] at hsb
      by_cases hz : fw f = 0
      · have hE : kW l = 0 := by
          rw [HE.out, HN.out (by simp [hz]) hlt]; rfl
        have hwd := words_any f wr
        rw [hz] at hwd
        rw [hE]
        clear hE hb
        go_wp2_with fail
        refine hwd.mono ?_
        rintro e w2 ⟨rfl, rfl⟩
        go_wp2
        go_ret
        exact ⟨rfl, HB4.out⟩
      · have bz : (fw f == 0) = false := beq_eq_false_iff_ne.2 hz
        have hwd := words_any f wr
        obtain ⟨v, hv⟩ : ∃ v, fw f = v := ⟨_, rfl⟩
        obtain ⟨s, hs⟩ : ∃ s, sw (l.take k) = s := ⟨_, rfl⟩
        have HSD : Hid ((l.take (k + 1)).all (fun f => decide (fw f ≠ 0)) = true) := Lib.hid (by rw [HS.out]; simpa using hz)
        rw [hv] at hwd bz hfb HW
        rw [hs] at hsb HW
        rw [hs]
        have HWD := Lib.hid hwd
        have a1 : IntKind.i64.wrap (1 + s + v) = 1 + s + v := Go.IntWalk.i64_in _ (by omega)
        clear hb hwd hf hz HS HN hv hs
        go_wp2_with fail
        refine HWD.out.mono ?_
        rintro e w2 ⟨rfl, rfl⟩
        go_wp2_with fail
        refine HWD.out.mono ?_
        rintro e w2 ⟨rfl, rfl⟩
        go_wp2
        go_roundw
        case rel => exact ⟨k + 1, by omega, by go_num, by first | (rw [HW.out, a1, Int.add_assoc]) | (rw [HW.out, Int.add_assoc]), HSD.out, HB4.out⟩
        case measure => simp [intOf]; omega
    · obtain rfl : k = l.length := by omega
      have hE : kW l = 1 + sw l := by
        have := HAL.out
        rw [List.take_length] at this
        rw [HE.out, this]; rfl
      have HEE := Lib.hid hE
      rw [List.take_length]
      clear hb hE
      go_wp2
      go_ret
      rw [HEE.out]
      exact ⟨rfl, HB4.out⟩
end Go.Proofs.Ytlmlckidgfnhdaa.Kw
