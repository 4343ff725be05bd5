/- The reference's closure: put, and Closure by its contract; awake; the statement's helpers. -/
import Derived.Test.YtgkjhnilgmokiaaOf
import Derived.Test.YtgkjhnilgmokiaaR
namespace Go.Proofs.Ytgkjhnilgmokiaa.Fo
open Go.RowKit Go.ChangeShapes Go.WideShapes Go.Proofs.YtgkjhnilgmokiaaW.PrintWords Go.Proofs.Ytgkjhnilgmokiaa.Ha Go.Proofs.Ytgkjhnilgmokiaa.Hp Go.Proofs.Ytgkjhnilgmokiaa.Cl Go.Proofs.Ytgkjhnilgmokiaa.Clo Go.Proofs.Ytgkjhnilgmokiaa.W8 Go.Proofs.Ytgkjhnilgmokiaa.Of
set_option linter.unusedVariables false
def cellF (v : Value) (u : Nat → Bool) (k : Nat) : Value := if k = 0 then v else .bool (u (k - 1))
def tabF (v : Value) (u : Nat → Bool) : Array Value := ((List.range 65).map (cellF v u)).toArray
def FTab (w : World) (g : Nat) (v : Value) (u : Nat → Bool) : Prop := w.heap[g]? = some (.cells (tabF v u) 70 (0, 0))
section
variable {w : World} {g : Nat} {v : Value} {u : Nat → Bool}
theorem FTab.cell (h : FTab w g v u) (k : Nat) (hk : k < 65) : w.cell? ⟨g, k, none⟩ = some (cellF v u k) := by
  rw [cell_of_row w g k _ 70 (0, 0) h]
  simp [tabF, hk]
theorem FTab.frozen (h : FTab w g v u) (k : Nat) : w.frozen? ⟨g, k, none⟩ = false := by
  unfold FTab at h
  simp [World.frozen?, h]
theorem FTab.row (h : FTab w g v u) : w.cell? ⟨g, 0, none⟩ = some v := h.cell 0 (by omega)
theorem FTab.isin (h : FTab w g v u) (i : Nat) (hi : i < 64) : w.cell? ⟨g, 1 + i, none⟩ = some (.bool (u i)) := by
  rw [h.cell _ (by omega)]
  unfold cellF
  rw [if_neg (by omega), show 1 + i - 1 = i by omega]
theorem FTab.set (h : FTab w g v u) (k : Nat) (x : Value) (v' : Value) (u' : Nat → Bool) (hh : ∀ j, j < 65 → cellF v' u' j = if j = k then x else cellF v u j) : FTab (w.setCell ⟨g, k, none⟩ x) g v' u' := by
  unfold FTab at *
  simp only [World.setCell, Array.getElem?_modify, h, if_pos, Option.map_some]
  have : (tabF v u).setIfInBounds k x = tabF v' u' := by
    unfold tabF
    refine Array.ext (by simp) fun j h1 h2 => ?_
    have hj : j < 65 := by simpa using h2
    have h3 : j < (List.map (cellF v u) (List.range 65)).toArray.size := by simpa using hj
    rw [Array.getElem_setIfInBounds h3]
    simp only [List.getElem_toArray, List.getElem_map, List.getElem_range]
    rw [hh j hj]
    by_cases hjk : k = j
    · subst hjk; simp
    · have : ¬ j = k := fun e => hjk e.symm
      rw [if_neg hjk, if_neg this]
  rw [← this]
  rfl
theorem FTab.setRow (h : FTab w g v u) (x : Value) : FTab (w.setCell ⟨g, 0, none⟩ x) g x u := by
  refine h.set _ _ _ _ fun j _ => ?_
  unfold cellF
  by_cases h0 : j = 0
  · rw [if_pos h0, if_pos h0]
  · rw [if_neg h0, if_neg h0, if_neg h0]
theorem FTab.setIn (h : FTab w g v u) (i : Nat) (hi : i < 64) (x : Bool) : FTab (w.setCell ⟨g, 1 + i, none⟩ (.bool x)) g v (upd u i x) := by
  refine h.set _ _ _ _ fun j _ => ?_
  unfold cellF upd
  by_cases h0 : j = 1 + i
  · subst h0; rw [if_neg (by omega), if_pos rfl, if_pos (by omega)]
  · rw [if_neg h0]
    by_cases h1 : j = 0
    · rw [if_pos h1, if_pos h1]
    · rw [if_neg h1, if_neg h1, if_neg (by omega)]
theorem FTab.keep {w' : World} {r : Option Nat} (h : FTab w g v u) (hg : w.grownBy w' r) (hne : r ≠ some g) : FTab w' g v u :=
  (hg.block g (Array.getElem?_eq_some_iff.1 h).1 (fun e => hne e.symm)).trans h
theorem FTab.alloc (h : FTab w g v u) (b : Obj) : FTab (w.alloc b) g v u := (heap_alloc_old w b (Array.getElem?_eq_some_iff.1 h).1).trans h
end
/-- The row and its marks. -/
def Fs (B : Nat) (w0 w : World) (g : Nat) (out : List Int) : Prop := ∃ v u, FTab w g v u ∧ w.ownsRow B 3 1 v out.length (out.map (Value.int .i64)) ∧ (∀ i : Nat, i < 64 → u i = decide ((-1 - (i : Int)) ∈ out)) ∧ Below B w0 w ∧ B ≤ g
theorem own_set_other {w : World} {B n : Nat} {v x : Value} {xs : List Value} {g k : Nat} (h : w.ownsRow B 3 1 v n xs) (hne : v.ownBlock ≠ some g) : (w.setCell ⟨g, k, none⟩ x).ownsRow B 3 1 v n xs :=
  own_move h fun j hj => Below.heap_setCell w _ x j (fun e => hne (by rw [hj, e]))
theorem own_ne_F {w : World} {B n g : Nat} {v v1 : Value} {u : Nat → Bool} {xs : List Value} (h : w.ownsRow B 3 1 v n xs) (hF : FTab w g v1 u) : v.ownBlock ≠ some g := by
  intro e
  obtain ⟨cs, hc⟩ := own_typed h g e
  unfold FTab at hF
  rw [hc] at hF
  injection hF with hF
  injection hF with _ hF
  cases hF
set_option maxHeartbeats 1000000 in
theorem put_any (B : Nat) (w0 w : World) (g : Nat) (out : List Int) (x : Int) (h : Fs B w0 w g out) (hg : Gd out) : Calls Try.prog 38 #[.pointer (some ⟨g, 0, none⟩), .int .i64 x] w fun e w' => e = .returned (.tuple #[]) ∧ Fs B w0 w' g (stp out x) := by
  obtain ⟨v, u, hF, ho, hu, hb, hB⟩ := h
  have hle := gd_le hg
  have hgl : g < w.heap.size := (Array.getElem?_eq_some_iff.1 hF).1
  by_cases h0 : x < 0
  · by_cases h1 : -64 ≤ x
    · obtain ⟨k, hk⟩ : ∃ k : Nat, -1 - x = (k : Int) := ⟨(-1 - x).toNat, by omega⟩
      have hk64 : k < 64 := by omega
      have hi := hF.isin k hk64
      have hx := hu k hk64
      rw [show (-1 - (k : Int)) = x by omega] at hx
      have s1 : IntKind.i64.wrap (-1 - x) = (k : Int) := by rw [Go.IntWalk.i64_in _ (by omega)]; omega
      by_cases hm : x ∈ out
      · have e : stp out x = out := by unfold stp; rw [if_neg (fun h => h.2 hm)]
        rw [decide_eq_true hm] at hx
        rw [hx] at hi
        rw [e]
        have hS : Hid (Fs B w0 w g out) := Lib.hid ⟨v, u, hF, ho, hu, hb, hB⟩
        clear hF ho hu e hg
        go_enter Try.func38, Try.ntmps38
        go_wp2
        go_end0
        exact ⟨rfl, hS.out⟩
      · have e : stp out x = out ++ [x] := by unfold stp; rw [if_pos ⟨vol_iff.2 ⟨h1, h0⟩, hm⟩]
        rw [decide_eq_false hm] at hx
        rw [hx] at hi
        rw [e]
        have hne := own_ne_F ho hF
        have fz := hF.frozen (1 + k)
        have hF1 := hF.setIn k hk64 true
        have ho1 := Lib.hid (own_set_other (k := 1 + k) (x := .bool true) ho hne)
        have hr1 := hF1.row
        have hb1 := Lib.hid (hb.setCell (p := ⟨g, 1 + k, none⟩) hB (.bool true))
        have hF1 := Lib.hid hF1
        have HU := Lib.hid hu
        have HX := Lib.hid hx
        clear hF ho hu e hg hx
        have HSZ := Lib.hid (show (w.setCell ⟨g, 1 + k, none⟩ (.bool true)).heap.size = w.heap.size by simp)
        have hB1 : B ≤ (w.setCell ⟨g, 1 + k, none⟩ (.bool true)).heap.size := by simp; omega
        go_enter Try.func38, Try.ntmps38
        go_wp2_with (at_builtin; refine print_append_num (P := Try.prog) (w0 := w0) (W := w.setCell ⟨g, 1 + k, none⟩ (.bool true)) B rfl (.tmp 30) (.tmp 32) 27 3 .i64 8 rfl Try.underlying27 info3' (by omega) v out x rfl (congrArg (fun n => Value.slice (some ⟨n, 0, none⟩) 1 1) HSZ.out.symm) ho1.out hb1.out hB1 ?c1 ?_)
        case c1 => omega
        intro v1 w1 ho2 hb2 hg2 _
        obtain ⟨A9, c9, rfl⟩ := own_slice ho2
        have hF2 := hF1.out.keep hg2 hne
        have fz2 := hF2.frozen 0
        have hF3 := Lib.hid (hF2.setRow (.slice A9 (out.length + 1) c9))
        have ho3 := Lib.hid (own_set_other (k := 0) (x := .slice A9 (out.length + 1) c9) ho2 (own_ne_F ho2 hF2))
        have hb3 := Lib.hid (hb2.setCell (p := ⟨g, 0, none⟩) hB (.slice A9 (out.length + 1) c9))
        have hr2 := hF2.row
        clear ho2 hb2 hg2 hF2
        go_wp2
        go_end0
        refine ⟨rfl, _, upd u k true, hF3.out, (by rw [List.length_append]; exact ho3.out), fun i hi => ?_, hb3.out, hB⟩
        unfold upd
        by_cases e : i = k
        · subst e
          rw [if_pos rfl, show (-1 - (i : Int)) = x by omega]
          exact (decide_eq_true (by simp)).symm
        · rw [if_neg e, HU.out i hi]
          have : (-1 - (i : Int)) ≠ x := by omega
          simp [this]
    · have e : stp out x = out := by unfold stp; rw [if_neg (fun h => h1 (vol_iff.1 h.1).1)]
      rw [e]
      have hS : Hid (Fs B w0 w g out) := Lib.hid ⟨v, u, hF, ho, hu, hb, hB⟩
      clear hF ho hu e hg
      go_enter Try.func38, Try.ntmps38
      go_wp2
      go_end0
      exact ⟨rfl, hS.out⟩
  · have e : stp out x = out := by unfold stp; rw [if_neg (fun h => h0 (vol_iff.1 h.1).2)]
    rw [e]
    have hS : Hid (Fs B w0 w g out) := Lib.hid ⟨v, u, hF, ho, hu, hb, hB⟩
    clear hF ho hu e hg
    go_enter Try.func38, Try.ntmps38
    go_wp2
    go_end0
    exact ⟨rfl, hS.out⟩
theorem Fs.gd_alloc {B g : Nat} {w0 w : World} {out : List Int} (h : Fs B w0 w g out) (b : Obj) : Fs B w0 (w.alloc b) g out := by
  obtain ⟨v, u, hF, ho, hu, hb, hB⟩ := h
  exact ⟨v, u, hF.alloc b, ho.alloc b, hu, hb.alloc (by have : g < w.heap.size := (Array.getElem?_eq_some_iff.1 hF).1; omega) b, hB⟩
theorem Fs.below {B g : Nat} {w0 w : World} {out : List Int} (h : Fs B w0 w g out) : Below B w0 w := by
  obtain ⟨v, u, hF, ho, hu, hb, hB⟩ := h
  exact hb
def tabF0 : Array Value := tabF (.slice none 0 0) fun _ => false
theorem fs_new (w : World) : Fs w.heap.size w (w.alloc (.cells tabF0 70)) w.heap.size [] :=
  ⟨_, fun _ => false, heap_alloc_new w _, own_nil _ _ _ _, fun i _ => by simp, (Below.refl _ _).alloc (Nat.le_refl _) _, Nat.le_refl _⟩
theorem own_form {w : World} {B n : Nat} {v : Value} {l : List Int} (h : w.ownsRow B 3 1 v n (l.map (Value.int .i64))) (i : Nat) (hi : i < l.length) : ∃ ad c, v = .slice (some ad) l.length c ∧ w.cell? (ad.add i) = some (.int .i64 (l.getD i 0)) := by
  obtain ⟨_, A, c, rfl, hr⟩ := own_rd h
  obtain ⟨ad, rfl, hc⟩ := hr i hi
  exact ⟨ad, c, rfl, hc⟩
set_option maxHeartbeats 4000000 in
set_option maxRecDepth 20000 in
theorem closure_any (A1 : Option Addr) (c1 : Nat) (t : List (List Int)) (A0 : Option Addr) (c0 : Nat) (l : List W8) (w : World) (h8 : Kd.C k8 w A0 l.length l) (hn : l.length ≤ 1000) (hC : Kd.C (Kd.slice 3 (Kd.int .i64)) w A1 t.length t) (hl : ∀ r ∈ t, r.length ≤ 30) (ht : t.length ≤ 80) :
    Calls Try.prog 18 #[.slice A0 l.length c0, .slice A1 t.length c1] w (Own w (clo (Rt t) 65 (sd l) 0)) := by
  have H8 := Lib.hid h8
  have HC := Lib.hid hC
  have HN := Lib.hid (fs_new w)
  clear h8 hC
  have hz : ∀ w, (zeroValue 70).run Try.prog w = .ok (.agg tabF0) w := fun w => by kernel_rfl
  go_enter Try.func18, Try.ntmps18
  go_wp2
  clear hz
  go_loopw [16] (fun i wr => ∃ k : Nat, k ≤ l.length ∧ i = .int .i64 (k : Int) ∧ Fs w.heap.size w wr w.heap.size (sd (l.take k))) (fun i _ => l.length - (intOf i).toNat)
  case atStart => exact ⟨0, by omega, rfl, HN.out⟩
  case round =>
    obtain ⟨k, hk, rfl, hf⟩ := hrel
    have hb := hf.below
    by_cases hlt : k < l.length
    · obtain ⟨ad, rfl, hc⟩ := at_W8 (Kd.C_below H8.out hb) k hlt
      have HG := Lib.hid (gd_sd (l.take k))
      have es : sd (l.take (k + 1)) = sd1 (sd (l.take k)) (l.getD k z8) := by rw [take_next8 l k hlt, sd_snoc]
      have ES := Lib.hid es
      clear es
      obtain ⟨L, hL⟩ : ∃ L, sd (l.take k) = L := ⟨_, rfl⟩
      obtain ⟨x, hx⟩ : ∃ x, l.getD k z8 = x := ⟨_, rfl⟩
      rw [hL] at hf ES HG
      rw [hx] at hc ES
      clear hL hx
      obtain ⟨q0, q1, q2, q3, q4, q5, q6, q7⟩ := hc
      obtain ⟨f0, f1, f2, ⟨f3, f4, f5, f6, f7⟩⟩ := x
      dsimp only at q0 q1 q2 q3 q4 q5 q6 q7
      have HF := Lib.hid (hf.gd_alloc (.cells #[.int .i64 f0, .int .i64 f1, .int .i64 f2, .int .i64 f3, .int .i64 f4, .int .u64 f5, .int .u64 f6, .int .i64 f7] 38))
      clear hf
      have EV := Lib.hid (show sel ⟨f0, f1, f2, ⟨f3, f4, f5, f6, f7⟩⟩ = (((f0 == 1) || (f0 == 2)) && (f3 == 3)) from rfl)
      cases es : sel ⟨f0, f1, f2, ⟨f3, f4, f5, f6, f7⟩⟩
      · have E2 := Lib.hid (sd1_no L es)
        rw [es] at EV
        clear es
        cases e1 : (f0 == 1) <;> cases e2 : (f0 == 2) <;> cases e3 : (f3 == 3) <;> rw [e1, e2, e3] at EV <;> first
          | exact Bool.noConfusion EV.out
          | (go_wp2
             go_roundw
             case rel => exact ⟨k + 1, by omega, by go_num, by rw [ES.out, E2.out]; exact HF.out⟩
             case measure => simp [intOf]; omega)
      · have E2 := Lib.hid (sd1_yes L es)
        rw [es] at EV
        clear es
        cases e1 : (f0 == 1) <;> cases e2 : (f0 == 2) <;> cases e3 : (f3 == 3) <;> rw [e1, e2, e3] at EV <;> try exact Bool.noConfusion EV.out
        all_goals clear EV
        all_goals
          go_wp2_with fail
          refine (put_any _ _ _ _ L f7 HF.out HG.out).mono ?_
          rintro e w2 ⟨rfl, hf2⟩
          rw [← E2.out, ← ES.out] at hf2
          have HF2 := Lib.hid hf2
          clear hf2
          go_wp2
          go_roundw
          case rel => exact ⟨k + 1, by omega, by go_num, HF2.out⟩
          case measure => simp [intOf]; omega
    · obtain rfl : k = l.length := by omega
      rw [List.take_length] at hf
      have HG := Lib.hid (gd_sd l)
      have hf0 := Lib.hid hf
      obtain ⟨wo, rfl⟩ : ∃ wo : World, wo = wr := ⟨_, rfl⟩
      clear hf hb
      go_wp2
      go_loopw [8] (fun i wr => ∃ (out : List Int) (k : Nat), k ≤ out.length ∧ i = .int .i64 (k : Int) ∧ Gd out ∧ clo (Rt t) (65 - k) out k = clo (Rt t) 65 (sd l) 0 ∧ Fs w.heap.size w wr w.heap.size out) (fun i _ => 65 - (intOf i).toNat)
      case atStart => exact ⟨sd l, 0, by omega, rfl, HG.out, rfl, hf0.out⟩
      case round =>
        obtain ⟨out, k, hk, rfl, hg, hF, hf⟩ := hrel
        have HFs := Lib.hid hf
        have HG2 := Lib.hid hg
        have hle := gd_le hg
        obtain ⟨v, u, hT, ho, hu, hb, hB⟩ := hf
        have hr := hT.row
        have HOw := Lib.hid ho
        have HCL := Lib.hid hF
        clear hT hu hg hF
        by_cases hlt : k < out.length
        · obtain ⟨ad, c, rfl, hc⟩ := own_form ho k hlt
          have hst := clo_step (R := Rt t) hlt (by omega)
          rw [HCL.out] at hst
          have hm : out.getD k 0 ∈ out := by
            rw [List.getD_eq_getElem?_getD, List.getElem?_eq_getElem hlt]
            exact List.getElem_mem hlt
          have hv := HG2.out.2 _ hm
          have HST := Lib.hid hst
          obtain ⟨y, hy⟩ : ∃ y, out.getD k 0 = y := ⟨_, rfl⟩
          rw [hy] at hc hv HST
          clear hst hm hy ho
          obtain ⟨h1, h2⟩ := vol_iff.1 hv
          obtain ⟨j, hj⟩ : ∃ j : Nat, -1 - y = (j : Int) := ⟨(-1 - y).toNat, by omega⟩
          have s1 : IntKind.i64.wrap (-1 - y) = (j : Int) := by rw [Go.IntWalk.i64_in _ (by omega)]; omega
          clear hv
          by_cases hjt : j < t.length
          · have e : Rt t y = t.getD j [] := by unfold Rt; rw [if_pos ⟨h2, by omega⟩, show (-1 - y).toNat = j by omega]
            rw [e] at HST
            have hrl : (t.getD j []).length ≤ 30 := by
              apply hl
              rw [List.getD_eq_getElem?_getD, List.getElem?_eq_getElem hjt]
              exact List.getElem_mem _
            obtain ⟨ad1, B, c', rfl, hcr, hle', hrow⟩ := at_row HC.out j hjt
            have HROW := Lib.hid hrow
            have hcr := pw_cell_below hb hcr
            obtain ⟨ys, hys⟩ : ∃ ys, t.getD j [] = ys := ⟨_, rfl⟩
            rw [hys] at HST hrl hcr hle' HROW
            clear hys hrow e hj
            obtain ⟨wq, rfl⟩ : ∃ wq : World, wq = wr := ⟨_, rfl⟩
            go_wp2
            go_loopw [66] (fun i wr => ∃ m : Nat, m ≤ ys.length ∧ i = .int .i64 (m : Int) ∧ Fs w.heap.size w wr w.heap.size (addL out (ys.take m))) (fun i _ => ys.length - (intOf i).toNat)
            case atStart => exact ⟨0, by omega, rfl, HFs.out⟩
            case round =>
              obtain ⟨m, hm, rfl, hf⟩ := hrel
              have hb3 := hf.below
              by_cases hlm : m < ys.length
              · obtain ⟨ad2, rfl, hcy⟩ := (rd_C (Kd.C_below HROW.out hb3)) m hlm
                have e2 : addL out (ys.take (m + 1)) = stp (addL out (ys.take m)) (ys.getD m 0) := by rw [take_next ys m hlm, addL_snoc]
                have E2 := Lib.hid e2
                have HF3 := Lib.hid hf
                have HG3 := Lib.hid (gd_addL HG2.out (ys.take m))
                obtain ⟨q, hq⟩ : ∃ q, ys.getD m 0 = q := ⟨_, rfl⟩
                rw [hq] at hcy E2
                clear hq e2 hf
                go_wp2_with fail
                refine (put_any _ _ _ _ _ q HF3.out HG3.out).mono ?_
                rintro e w2 ⟨rfl, hf2⟩
                rw [← E2.out] at hf2
                have HF2 := Lib.hid hf2
                clear hf2
                go_wp2
                go_roundw
                case rel => exact ⟨m + 1, by omega, by go_num, HF2.out⟩
                case measure => simp [intOf]; omega
              · obtain rfl : m = ys.length := by omega
                rw [List.take_length] at hf
                have HF3 := Lib.hid hf
                clear hf
                have hgl : k + 1 ≤ (addL out ys).length := by have := addL_ge out ys; omega
                have HL4 := Lib.hid (gd_addL HG2.out ys)
                go_wp2
                go_roundw
                case rel => exact ⟨addL out ys, k + 1, hgl, by go_num, HL4.out, HST.out.symm, HF3.out⟩
                case measure => simp [intOf]; omega
          · have e : Rt t y = [] := by unfold Rt; rw [if_neg (by omega)]
            rw [e] at HST
            clear e hj
            go_wp2
            go_roundw
            case rel => exact ⟨out, k + 1, by omega, by go_num, HG2.out, HST.out.symm, HFs.out⟩
            case measure => simp [intOf]; omega
        · obtain rfl : k = out.length := by omega
          have e := clo_done (R := Rt t) (Nat.le_refl out.length) (65 - out.length)
          rw [HCL.out] at e
          obtain ⟨A5, c5, rfl⟩ := own_slice ho
          clear ho
          have E := Lib.hid e
          clear e
          go_wp2
          go_ret
          rw [E.out]
          exact ⟨_, rfl, HOw.out, hb⟩
end Go.Proofs.Ytgkjhnilgmokiaa.Fo
