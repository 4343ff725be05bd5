/- Reach, the program's and the reference's; light; rows of bools compared. -/
import Derived.Test.YtdgclpgjoanimaaDoorMc
import Derived.Test.YtdgclpgjoanimaaDoorWk
import Derived.Test.YtdgclpgjoanimaaDoorRo
namespace Go.Proofs.YtdgclpgjoanimaaDoor.Re
open Go.RowKit Go.ChangeShapes Go.WideShapes Go.Proofs.YtdgclpgjoanimaaDoorW.PrintWords Go.Proofs.YtdgclpgjoanimaaDoor.Ba Go.Proofs.YtdgclpgjoanimaaDoor.Ma Go.Proofs.YtdgclpgjoanimaaDoor.Mb Go.Proofs.YtdgclpgjoanimaaDoor.Pu Go.Proofs.YtdgclpgjoanimaaDoor.Wa
set_option linter.unusedVariables false
/-- A row of bools is read. -/
def BRd (w : World) (A : Option Addr) (l : List Bool) : Prop := ∀ i, i < l.length → ∃ ad, A = some ad ∧ w.cell? (ad.add i) = some (.bool (l.getD i false))
theorem BRd.old {w w' : World} {A : Option Addr} {l : List Bool} (h : BRd w A l) (hb : ∀ k, k < w.heap.size → w'.heap[k]? = w.heap[k]?) : BRd w' A l := by
  intro i hi
  obtain ⟨ad, e, hc⟩ := h i hi
  exact ⟨ad, e, cell_old hc hb⟩
def BPost (w : World) (L : List Bool) (e : Ending) (w' : World) : Prop := ∃ A c, e = .returned (.slice A L.length c) ∧ L.length ≤ c ∧ BRd w' A L ∧ Below w.heap.size w w'
def markF (W : List Int) (j : Nat) : Value := .bool (decide ((j : Int) ∈ W))
theorem mark_step {w : World} {m n : Nat} {W : List Int} {t k : Nat} (h : w.rowIs m 4 n (markF (W.take t))) (ht : t < W.length) (hk : W.getD t 0 = (k : Int)) : (w.setCell ⟨m, k, none⟩ (.bool true)).rowIs m 4 n (markF (W.take (t + 1))) := by
  refine (h.set k _).congr fun i hi => ?_
  unfold markF
  rw [take_snoc W 0 t ht, hk]
  by_cases hik : i = k
  · subst hik; simp
  · rw [if_neg hik]
    have : ((i : Int) ∈ W.take t ++ [(k : Int)]) ↔ (i : Int) ∈ W.take t := by
      simp only [List.mem_append, List.mem_singleton]
      constructor
      · rintro (h | h)
        · exact h
        · exact absurd (by omega) hik
      · exact .inl
    simp only [this]
theorem mark_all {w : World} {m : Nat} {g : G3} {xs : List Int} (h : w.rowIs m 4 g.ns.length (markF (walkL g xs))) : BRd w (some ⟨m, 0, none⟩) (reachL g xs) := by
  intro i hi
  rw [reachL_len] at hi
  refine ⟨_, rfl, ?_⟩
  rw [reachL_at g xs i hi, show (Addr.mk m 0 none).add i = ⟨m, i, none⟩ by simp [Addr.add]; omega]
  exact h.cell hi
theorem mark_none {w : World} {n : Nat} : (w.alloc (.cells (madeCells #[.bool false] n) 4)).rowIs w.heap.size 4 n (markF []) := (World.rowIs_made w (.bool false) n 4).congr fun i hi => by simp [markF]
def reachR (g : G3) (xs : List Int) : List Bool := if mayG g = true then reachL g xs else []
theorem may_len {g : G3} (h : mayG g = true) : g.ns.length ≤ 4096 := by
  unfold mayG at h
  simp only [Bool.and_eq_true, decide_eq_true_eq] at h
  exact h.1.1
set_option maxHeartbeats 8000000 in
def lightG (g : G3) : Bool := decide (g.ns.length ≤ 60) && decide (g.rs.length ≤ 40) && decide (g.ws.length ≤ 40) && g.ns.all (fun x => decide (x.fs.length ≤ 30))
theorem light_sz {g : G3} (h : lightG g = true) : Sz g := by
  unfold lightG at h
  simp only [Bool.and_eq_true, decide_eq_true_eq, List.all_eq_true] at h
  exact ⟨by omega, by omega, fun x hx => by have := h.2 x hx; omega⟩
theorem light_ns {g : G3} (h : lightG g = true) : g.ns.length ≤ 60 ∧ g.rs.length ≤ 40 ∧ g.ws.length ≤ 40 ∧ ∀ x ∈ g.ns, x.fs.length ≤ 30 := by
  unfold lightG at h
  simp only [Bool.and_eq_true, decide_eq_true_eq, List.all_eq_true] at h
  exact ⟨h.1.1.1, h.1.1.2, h.1.2, h.2⟩
set_option maxHeartbeats 4000000 in
theorem light_any (v : Value) (g : G3) (w : World) (h : GAt w v g) (hok : ok3 g) : Calls Tryd.prog 6 #[v] w (BoolPost (lightG g) w) := by
  obtain ⟨AN, cN, AR, cR, AW, cW, rfl, _, _, _, hN, _, _⟩ := h
  have HN := Lib.hid hN
  have l1 := hok.1.1
  have l2 := hok.2.1.1
  have l3 := hok.2.2.1
  have HOK := Lib.hid hok.1.2
  have HB0 := Lib.hid ((Below.refl w.heap.size w).alloc (Nat.le_refl _) (.cells #[.slice AN g.ns.length cN, .slice AR g.rs.length cR, .slice AW g.ws.length cW] 25))
  clear hN hok
  by_cases h1 : g.ns.length ≤ 60
  · by_cases h2 : g.rs.length ≤ 40
    · by_cases h3 : g.ws.length ≤ 40
      · have HM : Hid (lightG g = g.ns.all (fun x => decide (x.fs.length ≤ 30))) := Lib.hid (by unfold lightG; rw [decide_eq_true h1, decide_eq_true h2, decide_eq_true h3]; rfl)
        obtain ⟨m, hm⟩ : ∃ m, lightG g = m := ⟨_, rfl⟩
        rw [hm] at HM ⊢
        clear hm
        go_enter Tryd.func6, Tryd.ntmps6
        go_wp2
        go_loopw [24] (fun i wr => ∃ k : Nat, k ≤ g.ns.length ∧ i = .int .i64 (k : Int) ∧ (g.ns.take k).all (fun x => decide (x.fs.length ≤ 30)) = true ∧ Below w.heap.size w wr) (fun i _ => g.ns.length - (intOf i).toNat)
        case atStart => exact ⟨0, by omega, rfl, rfl, HB0.out⟩
        case round =>
          obtain ⟨k, hk, rfl, hno, hb⟩ := hrel
          have HNO := Lib.hid hno
          clear hno
          by_cases hlt : k < g.ns.length
          · obtain ⟨ad, rfl, y0, A7, c7, y1, _, _⟩ := (HN.out.old hb.block) k hlt
            have HE := Lib.hid (all_take_snoc (d := zN) HNO.out hlt)
            have HF : Hid (decide ((g.ns.getD k zN).fs.length ≤ 30) = false → m = false) := Lib.hid (fun h => by rw [HM.out]; exact all_no (p := fun x : N2 => decide (x.fs.length ≤ 30)) h hlt)
            have hl7 := (HOK.out _ (mem_getD (d := zN) hlt)).2.1
            obtain ⟨x, hx⟩ : ∃ x, g.ns.getD k zN = x := ⟨_, rfl⟩
            rw [hx] at y0 y1 HE HF hl7
            clear hx HNO
            obtain ⟨f0, f1⟩ := x
            dsimp only at y0 y1 HE HF hl7
            have HB1 := Lib.hid (hb.alloc hb.size (.cells #[.int .i64 f0, .slice A7 f1.length c7] 33))
            clear hb
            by_cases h4 : f1.length ≤ 30
            · have HE2 := Lib.hid (HE.out.trans (decide_eq_true h4))
              clear HE HF
              go_wp2
              go_roundw
              case rel => exact ⟨k + 1, by omega, by go_num, HE2.out, HB1.out⟩
              case measure => simp [intOf]; omega
            · have HF2 := Lib.hid (HF.out (decide_eq_false h4))
              clear HE HF
              go_wp2
              go_ret
              rw [HF2.out]
              exact ⟨rfl, HB1.out⟩
          · obtain rfl : k = g.ns.length := by omega
            have HMT : Hid (m = true) := Lib.hid (by
              have := HNO.out
              rw [List.take_length] at this
              rw [HM.out, this])
            clear HM HNO
            go_wp2
            go_ret
            rw [HMT.out]
            exact ⟨rfl, hb⟩
      · have e : lightG g = false := by unfold lightG; rw [decide_eq_false h3]; simp
        rw [e]
        go_enter Tryd.func6, Tryd.ntmps6
        go_wp2
        go_ret
        exact ⟨rfl, HB0.out⟩
    · have e : lightG g = false := by unfold lightG; rw [decide_eq_false h2]; simp
      rw [e]
      go_enter Tryd.func6, Tryd.ntmps6
      go_wp2
      go_ret
      exact ⟨rfl, HB0.out⟩
  · have e : lightG g = false := by unfold lightG; rw [decide_eq_false h1]; simp
    rw [e]
    go_enter Tryd.func6, Tryd.ntmps6
    go_wp2
    go_ret
    exact ⟨rfl, HB0.out⟩
end Go.Proofs.YtdgclpgjoanimaaDoor.Re
