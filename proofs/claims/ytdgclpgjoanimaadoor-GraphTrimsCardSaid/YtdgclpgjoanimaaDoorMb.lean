/- Concat and May, the program's and the reference's. -/
import Derived.Test.YtdgclpgjoanimaaDoorMa
namespace Go.Proofs.YtdgclpgjoanimaaDoor.Mb
open Go.RowKit Go.ChangeShapes Go.WideShapes Go.Proofs.YtdgclpgjoanimaaDoorW.PrintWords Go.Proofs.YtdgclpgjoanimaaDoor.Ba Go.Proofs.YtdgclpgjoanimaaDoor.Ma
set_option linter.unusedVariables false
theorem reads_rd {w : World} {A : Option Addr} {l : List Int} (h : Rd w A l) (hl : l.length ≤ 1000000) : ReadsOf (Value.int .i64) 0 w A l.length l := by
  refine ⟨rfl, by omega, fun hn => ?_⟩
  obtain ⟨ad, rfl, _⟩ := h 0 hn
  refine ⟨ad, rfl, fun j hj => ?_⟩
  obtain ⟨ad', e, hc⟩ := h j hj
  injection e with e
  subst e
  exact hc
/-- Two slices in a row. -/
theorem two_cells {w : World} {b : Nat} {x y : Value} {t : Nat} (h : w.heap[b]? = some (.cells #[x, y] t (0, 0))) : w.cell? ⟨b, 0, none⟩ = some x ∧ w.cell? ⟨b, 1, none⟩ = some y := by
  refine ⟨?_, ?_⟩ <;> (rw [cell_of_row w b _ _ t (0, 0) h]; rfl)
def part (rs ws : List Int) (k : Nat) : List Int := if k = 0 then [] else if k = 1 then rs else rs ++ ws
set_option maxHeartbeats 4000000 in
theorem concat_any (b : Nat) (AR : Option Addr) (cR : Nat) (AW : Option Addr) (cW : Nat) (rs ws : List Int) (w : World) (h : w.heap[b]? = some (.cells #[.slice AR rs.length cR, .slice AW ws.length cW] 23 (0, 0)))
    (hr : Rd w AR rs) (hw : Rd w AW ws) (h1 : rs.length ≤ 10000) (h2 : ws.length ≤ 10000) : Calls Tryd.prog 17 #[.slice (some ⟨b, 0, none⟩) 2 2] w (Own w (rs ++ ws)) := by
  obtain ⟨c0, c1⟩ := two_cells h
  have HR := Lib.hid hr
  have HW := Lib.hid hw
  have HH := Lib.hid h
  clear h hr hw
  have s1 : IntKind.i64.wrap ((rs.length : Int) + (ws.length : Int)) = ((rs.length + ws.length : Nat) : Int) := by rw [Go.IntWalk.i64_in _ (by omega)]; omega
  have s0 : IntKind.i64.wrap (0 + (rs.length : Int)) = (rs.length : Int) := by rw [Go.IntWalk.i64_in _ (by omega)]; omega
  go_enter Tryd.func17, Tryd.ntmps17
  go_wp2
  go_loop [3, 11] (fun s i => (i = .int .i64 0 ∧ s = .int .i64 0) ∨ (i = .int .i64 1 ∧ s = .int .i64 (rs.length : Int)) ∨ (i = .int .i64 2 ∧ s = .int .i64 ((rs.length + ws.length : Nat) : Int))) (fun _ i => 2 - (intOf i).toNat)
  case atStart => exact .inl ⟨rfl, rfl⟩
  case round =>
    rcases hrel with ⟨rfl, rfl⟩ | ⟨rfl, rfl⟩ | ⟨rfl, rfl⟩
    · go_wp2
      go_round
      case rel => exact .inr (.inl ⟨rfl, by first | rfl | (rw [s0])⟩)
      case measure => simp [intOf]
    · go_wp2
      go_round
      case rel => exact .inr (.inr ⟨rfl, by first | rfl | (rw [s1])⟩)
      case measure => simp [intOf]
    · go_wp2_with fail
      refine (grow_any (rs.length + ws.length) w (by omega)).mono ?_
      rintro e w1 ⟨v1, rfl, ho, hb⟩
      have HB1 := Lib.hid hb
      have HO1 := Lib.hid ho
      clear ho
      have hbs := hb.size
      have c0 := cell_old c0 hb.block
      have c1 := cell_old c1 hb.block
      obtain ⟨_, A1, k1, rfl, _⟩ := own_rd (l := []) HO1.out
      go_wp2
      go_loopw [6, 27] (fun v i wr => ∃ k : Nat, k ≤ 2 ∧ i = .int .i64 (k : Int) ∧ wr.ownsRow w.heap.size 3 1 v (part rs ws k).length ((part rs ws k).map (Value.int .i64)) ∧ Below w.heap.size w wr) (fun _ i _ => 2 - (intOf i).toNat)
      case atStart => exact ⟨0, by omega, rfl, HO1.out, HB1.out⟩
      case round =>
        obtain ⟨k, hk, rfl, ho, hb⟩ := hrel
        have HO := Lib.hid ho
        have HB := Lib.hid hb
        have hbs := hb.size
        obtain ⟨q0, q1⟩ := two_cells ((hb.block b (Array.getElem?_eq_some_iff.1 HH.out).1).trans HH.out)
        have k3 : k = 0 ∨ k = 1 ∨ k = 2 := by omega
        clear ho hb c0 c1
        rcases k3 with rfl | rfl | rfl
        · obtain ⟨_, A5, c5, rfl, _⟩ := own_rd HO.out
          have HRR := Lib.hid (reads_rd (HR.out.below HB.out.block) (by omega))
          go_wp2_with (at_builtin; refine print_append_row_of (P := Tryd.prog) (w0 := w) (W := wr) (Value.int .i64) 0 w.heap.size rfl (.tmp 31) (.tmp 32) 23 3 (.int .i64 0) 8 rfl Tryd.underlying23 info3 rfl (by decide) (fun _ => rfl) _ (part rs ws 0) rs AR rs.length cR rfl rfl HO.out HRR.out HB.out hbs ?c1 ?_)
          case c1 => simp [part]; omega
          intro v2 w2 ho2 hb2 _ _
          have HO2 : Hid (w2.ownsRow w.heap.size 3 1 v2 (part rs ws 1).length ((part rs ws 1).map (Value.int .i64))) := Lib.hid (by rw [← List.length_append, show part rs ws 0 ++ rs = part rs ws 1 from rfl] at ho2; exact ho2)
          clear ho2
          go_wp2
          go_roundw
          case rel => exact ⟨1, by omega, by go_num, HO2.out, hb2⟩
          case measure => simp [intOf]
        · obtain ⟨_, A5, c5, rfl, _⟩ := own_rd HO.out
          have HRR := Lib.hid (reads_rd (HW.out.below HB.out.block) (by omega))
          go_wp2_with (at_builtin; refine print_append_row_of (P := Tryd.prog) (w0 := w) (W := wr) (Value.int .i64) 0 w.heap.size rfl (.tmp 31) (.tmp 32) 23 3 (.int .i64 0) 8 rfl Tryd.underlying23 info3 rfl (by decide) (fun _ => rfl) _ (part rs ws 1) ws AW ws.length cW rfl rfl HO.out HRR.out HB.out hbs ?c1 ?_)
          case c1 => simp [part]; omega
          intro v2 w2 ho2 hb2 _ _
          have HO2 : Hid (w2.ownsRow w.heap.size 3 1 v2 (part rs ws 2).length ((part rs ws 2).map (Value.int .i64))) := Lib.hid (by rw [← List.length_append, show part rs ws 1 ++ ws = part rs ws 2 from rfl] at ho2; exact ho2)
          clear ho2
          go_wp2
          go_roundw
          case rel => exact ⟨2, by omega, by go_num, HO2.out, hb2⟩
          case measure => simp [intOf]
        · go_wp2
          go_ret
          exact ⟨_, rfl, HO.out, HB.out⟩
theorem all_take_snoc {α : Type} {p : α → Bool} {l : List α} {d : α} {k : Nat} (h : (l.take k).all p = true) (hk : k < l.length) : (l.take (k + 1)).all p = p (l.getD k d) := by
  rw [take_snoc l d k hk, List.all_append, h, Bool.true_and, List.all_cons, List.all_nil, Bool.and_true]
theorem all_no {α : Type} {p : α → Bool} {l : List α} {d : α} {k : Nat} (h : p (l.getD k d) = false) (hk : k < l.length) : l.all p = false := by
  rw [List.all_eq_false]
  exact ⟨_, mem_getD hk, by rw [h]; decide⟩
/-- Sizes that the walks can bear. -/
structure Sz (g : G3) : Prop where
  r : g.rs.length ≤ 1000
  s : g.ws.length ≤ 1000
  f : ∀ x ∈ g.ns, x.fs.length ≤ 1000
set_option maxHeartbeats 8000000 in
theorem may_any (v : Value) (g : G3) (w : World) (h : GAt w v g) (hz : Sz g) : Calls Tryd.prog 7 #[v] w (BoolPost (mayG g) w) := by
  obtain ⟨AN, cN, AR, cR, AW, cW, rfl, _, _, _, hN, hR, hW⟩ := h
  have z1 := hz.r
  have z2 := hz.s
  have HZ := Lib.hid hz.f
  have HN := Lib.hid hN
  have HR := Lib.hid hR
  have HW := Lib.hid hW
  clear hN hR hW hz
  by_cases hm : 4096 < g.ns.length
  · have e : mayG g = false := by
      have : decide (g.ns.length ≤ 4096) = false := decide_eq_false (by omega)
      unfold mayG; rw [this]; rfl
    rw [e]
    have HB := Lib.hid ((Below.refl w.heap.size w).alloc (Nat.le_refl _) (.cells #[.slice AN g.ns.length cN, .slice AR g.rs.length cR, .slice AW g.ws.length cW] 25))
    go_enter Tryd.func7, Tryd.ntmps7
    go_wp2
    go_ret
    exact ⟨rfl, HB.out⟩
  · have HM : Hid (mayG g = ((g.rs ++ g.ws).all (rootB g.ns.length) && g.ns.all (fun x => x.fs.all (fieldB g.ns.length)))) := Lib.hid (by
      have : decide (g.ns.length ≤ 4096) = true := decide_eq_true (by omega)
      unfold mayG; rw [this, Bool.true_and])
    obtain ⟨m, hm⟩ : ∃ m, mayG g = m := ⟨_, rfl⟩
    rw [hm] at HM ⊢
    obtain ⟨w2, hw2⟩ : ∃ w2, (w.alloc (.cells #[.slice AN g.ns.length cN, .slice AR g.rs.length cR, .slice AW g.ws.length cW] 25)).alloc (.cells #[.slice AR g.rs.length cR, .slice AW g.ws.length cW] 23) = w2 := ⟨_, rfl⟩
    have HB : Hid (Below w.heap.size w w2) := Lib.hid (by rw [← hw2]; exact ((Below.refl _ _).alloc (Nat.le_refl _) _).alloc (by simp) _)
    have HX : Hid (Bx3 w2 w.heap.size AN g.ns.length cN AR g.rs.length cR AW g.ws.length cW) := Lib.hid (by
      rw [← hw2]
      exact (((Below.refl _ _).alloc (Nat.le_refl _) _).block w.heap.size (by rw [size_al]; omega)).trans (heap_alloc_new w _))
    have HC := Lib.hid (concat_any (w.heap.size + 1) AR cR AW cW g.rs g.ws w2 (by rw [← hw2, ← size_al w (.cells #[.slice AN g.ns.length cN, .slice AR g.rs.length cR, .slice AW g.ws.length cW] 25)]; exact heap_alloc_new _ _) (HR.out.below HB.out.block) (HW.out.below HB.out.block) (by omega) (by omega))
    clear hm
    go_enter Tryd.func7, Tryd.ntmps7
    go_wp2_with fail
    try rw [hw2]
    refine HC.out.mono ?_
    rintro e w3 ⟨v3, rfl, ho, hb3⟩
    obtain ⟨_, A3, c3, rfl, hrd⟩ := own_rd ho
    have HB3 := Lib.hid (HB.out.trans (hb3.mono HB.out.size))
    have HX3 := Lib.hid (HX.out.below hb3)
    have HRD := Lib.hid hrd
    obtain ⟨L, hL⟩ : ∃ L, g.rs ++ g.ws = L := ⟨_, rfl⟩
    have hLl : L.length ≤ 2000 := by rw [← hL, List.length_append]; omega
    rw [hL] at HRD HM ⊢
    clear ho hrd hb3 hw2 HC HB HX
    go_wp2
    go_loopw [18] (fun i wr => ∃ k : Nat, k ≤ L.length ∧ i = .int .i64 (k : Int) ∧ (L.take k).all (rootB g.ns.length) = true ∧ Below w.heap.size w wr ∧ Below w3.heap.size w3 wr) (fun i _ => L.length - (intOf i).toNat)
    case atStart => exact ⟨0, by omega, rfl, rfl, HB3.out, Below.refl _ _⟩
    case round =>
      obtain ⟨k, hk, rfl, hno, hb, hb4⟩ := hrel
      have HNO := Lib.hid hno
      have HBB := Lib.hid hb
      have HB4 := Lib.hid hb4
      have HX4 := HX3.out.below hb4
      obtain ⟨q0, q1, q2⟩ := HX4.cells
      clear hno hb
      by_cases hlt : k < L.length
      · obtain ⟨ad, rfl, hc⟩ := (HRD.out.below hb4.block) k hlt
        have HE := Lib.hid (all_take_snoc (d := 0) HNO.out hlt)
        have HF : Hid (rootB g.ns.length (L.getD k 0) = false → L.all (rootB g.ns.length) = false) := Lib.hid (fun h => all_no h hlt)
        obtain ⟨x, hx⟩ : ∃ x, L.getD k 0 = x := ⟨_, rfl⟩
        rw [hx] at hc HE HF
        clear hx hb4 HNO
        have HRT := Lib.hid (root_any AN g.ns.length cN AR g.rs.length cR AW g.ws.length cW x wr)
        unfold gv at HRT
        go_wp2_with fail
        refine HRT.out.mono ?_
        rintro e w4 ⟨rfl, hb5⟩
        have HB5 := Lib.hid (HBB.out.trans (hb5.mono HBB.out.size))
        have HB6 := Lib.hid (HB4.out.trans (hb5.mono HB4.out.size))
        cases ev : rootB g.ns.length x
        · have HMF : Hid (m = false) := Lib.hid (by rw [HM.out, HF.out ev]; rfl)
          clear HM HF HE
          go_wp2
          go_ret
          rw [HMF.out]; exact ⟨rfl, HB5.out⟩
        · have HE2 := Lib.hid (HE.out.trans ev)
          clear HF HE
          go_wp2
          go_roundw
          case rel => exact ⟨k + 1, by omega, by go_num, HE2.out, HB5.out, HB6.out⟩
          case measure => simp [intOf]; omega
      · obtain rfl : k = L.length := by omega
        have HMM : Hid (m = g.ns.all (fun x => x.fs.all (fieldB g.ns.length))) := Lib.hid (by
          have := HNO.out
          rw [List.take_length] at this
          rw [HM.out, this, Bool.true_and])
        clear HM HNO
        obtain ⟨w5, hw5⟩ : ∃ w5 : World, w5 = wr := ⟨_, rfl⟩
        subst hw5
        have HX5 := Lib.hid HX4
        clear hb4 HX4
        go_wp2
        go_loopw [30] (fun i wr => ∃ k : Nat, k ≤ g.ns.length ∧ i = .int .i64 (k : Int) ∧ (g.ns.take k).all (fun x => x.fs.all (fieldB g.ns.length)) = true ∧ Below w.heap.size w wr ∧ Below w5.heap.size w5 wr) (fun i _ => g.ns.length - (intOf i).toNat)
        case atStart => exact ⟨0, by omega, rfl, rfl, HBB.out, Below.refl _ _⟩
        case round =>
          clear q0 q1 q2
          obtain ⟨k, hk, rfl, hno, hb, hb6⟩ := hrel
          have HNO := Lib.hid hno
          have HBC := Lib.hid hb
          have HB6 := Lib.hid hb6
          have HX6 := Lib.hid (HX5.out.below hb6)
          clear hno hb6
          by_cases hlt : k < g.ns.length
          · obtain ⟨ad, rfl, hc⟩ := (HN.out.old hb.block) k hlt
            have HE := Lib.hid (all_take_snoc (d := zN) HNO.out hlt)
            have HF : Hid ((g.ns.getD k zN).fs.all (fieldB g.ns.length) = false → g.ns.all (fun x => x.fs.all (fieldB g.ns.length)) = false) := Lib.hid (fun h => all_no (p := fun x : N2 => x.fs.all (fieldB g.ns.length)) h hlt)
            have hzl := HZ.out _ (mem_getD (d := zN) hlt)
            obtain ⟨x, hx⟩ : ∃ x, g.ns.getD k zN = x := ⟨_, rfl⟩
            rw [hx] at hc HE HF hzl
            clear hx HNO
            obtain ⟨y0, A7, c7, y1, _, hf⟩ := hc
            obtain ⟨f0, f1⟩ := x
            dsimp only at y0 y1 hf HE HF hzl
            have hb7 := (Below.refl wr.heap.size wr).alloc (Nat.le_refl _) (.cells #[.int .i64 f0, .slice A7 f1.length c7] 33)
            have HCF := Lib.hid (containsf_any w.heap.size (some ad) g.ns.length cN AR g.rs.length cR AW g.ws.length cW A7 c7 f1 _ (HX6.out.below hb7) (hf.old hb7.block) (by omega))
            have HB7 := Lib.hid hb7
            clear hb7 hf hb
            go_wp2_with fail
            refine HCF.out.mono ?_
            rintro e w8 ⟨rfl, hb8⟩
            have HB9 := Lib.hid (HB7.out.trans (hb8.mono HB7.out.size))
            have HB10 := Lib.hid (HBC.out.trans (HB9.out.mono HBC.out.size))
            have HB11 := Lib.hid (HB6.out.trans (HB9.out.mono HB6.out.size))
            cases ev : f1.all (fieldB g.ns.length)
            · have HMF : Hid (m = false) := Lib.hid (by rw [HMM.out, HF.out ev])
              clear HMM HF HE
              go_wp2
              go_ret
              rw [HMF.out]; exact ⟨rfl, HB10.out⟩
            · have HE2 := Lib.hid (HE.out.trans ev)
              clear HF HE
              go_wp2
              go_roundw
              case rel => exact ⟨k + 1, by omega, by go_num, HE2.out, HB10.out, HB11.out⟩
              case measure => simp [intOf]; omega
          · obtain rfl : k = g.ns.length := by omega
            have HMT : Hid (m = true) := Lib.hid (by
              have := HNO.out
              rw [List.take_length] at this
              rw [HMM.out, this])
            clear HMM HNO
            go_wp2
            go_ret
            rw [HMT.out]; exact ⟨rfl, HBC.out⟩
end Go.Proofs.YtdgclpgjoanimaaDoor.Mb
