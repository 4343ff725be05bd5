/-
  Rows of the same words are the same (the reference's SameWords).
-/
import Derived.Test.YtacfddlclbelmaaDoorVc
namespace Go.Proofs.YtacfddlclbelmaaDoor.Vd
open Go.RowKit Go.ChangeShapes Go.WideShapes Go.Proofs.YtacfddlclbelmaaDoorW.PrintWords Go.Proofs.YtacfddlclbelmaaDoor.Ba Go.Proofs.YtacfddlclbelmaaDoor.Va
set_option linter.unusedVariables false
set_option linter.unusedSimpArgs false
set_option maxRecDepth 100000
set_option maxHeartbeats 8000000
theorem RU.old {w w' : World} {A : Option Addr} {l : List Int} (h : RU w A l) (hb : ∀ k, k < w.heap.size → w'.heap[k]? = w.heap[k]?) : RU w' A l := by
  intro i hi
  obtain ⟨ad, e, hc⟩ := h i hi
  exact ⟨ad, e, cell_old hc hb⟩
theorem samewords_self (A B : Option Addr) (c d : Nat) (xs : List Int) (w : World) (hx : RU w A xs) (hy : RU w B xs) (h100 : xs.length ≤ 100000) : Calls Tryd.prog 14 #[.slice A xs.length c, .slice B xs.length d] w fun e w' => e = .returned (.bool true) ∧ Below w.heap.size w w' := by
  have HXS := Lib.hid hx
  have HYS := Lib.hid hy
  clear hx hy
  obtain ⟨n, hn⟩ : ∃ n, xs.length = n := ⟨_, rfl⟩
  have HN := Lib.hid hn
  rw [hn] at h100 ⊢
  clear hn
  go_enter Tryd.func14, Tryd.ntmps14
  go_wp2
  go_loopw [13] (fun i wr => ∃ k : Nat, k ≤ n ∧ i = .int .i64 (k : Int) ∧ Below w.heap.size w wr) (fun i _ => n - (intOf i).toNat)
  case atStart => exact ⟨0, by omega, rfl, Below.refl _ _⟩
  case round =>
    obtain ⟨k, hk, rfl, hb⟩ := hrel
    have HB := Lib.hid hb
    by_cases hlt : k < n
    · obtain ⟨ad, rfl, hp⟩ := RU.old HXS.out hb.block k (by rw [HN.out]; exact hlt)
      obtain ⟨bd, rfl, hq⟩ := RU.old HYS.out hb.block k (by rw [HN.out]; exact hlt)
      obtain ⟨x, hx⟩ : ∃ x, xs.getD k 0 = x := ⟨_, rfl⟩
      rw [hx] at hp hq
      clear hx hb
      have b0 : (x != x) = false := by simp
      go_wp2
      go_region
      all_goals
        go_wp2
        go_roundw
        case rel => exact ⟨k + 1, by omega, by go_num, HB.out.drew⟩
        case measure => simp [intOf]; omega
    · clear hb
      obtain rfl : k = n := by omega
      go_wp2
      go_ret
      exact ⟨rfl, HB.out⟩
end Go.Proofs.YtacfddlclbelmaaDoor.Vd
