/-
  What is reached is shut: all that it refers to is reached, and nothing else is needed.
-/
import Derived.Test.YtdgclpgjoanimaaRows
import Derived.WalkKit
import Derived.WalkSpells
import Derived.WalkLawsBesides
import Derived.WalkMore
import Derived.ProofKit
import Derived.OpenShut
import Derived.ShutString
import Derived.ChangeOld
import Derived.Below
import Derived.SizedLaws
import Derived.Lib.Hide
import Derived.Test.YtdgclpgjoanimaaOpen
import Derived.Test.YtdgclpgjoanimaaLw
namespace Go.Proofs.Ytdgclpgjoanimaa.graphShuts
open Go.RowKit Go.ChangeShapes Go.WideShapes Go.ChangeAt Go.Proofs.YtdgclpgjoanimaaW.PrintWords
set_option linter.unusedVariables false
open Go.Proofs.Ytdgclpgjoanimaa.Ba Go.Proofs.Ytdgclpgjoanimaa.Ma Go.Proofs.Ytdgclpgjoanimaa.Mb Go.Proofs.Ytdgclpgjoanimaa.Pu Go.Proofs.Ytdgclpgjoanimaa.Lw
/-- Reached, as a row of bools says it. -/
def RB (w : World) (A : Option Addr) (n : Nat) (W : List Int) : Prop := ∀ i, i < n → ∃ ad, A = some ad ∧ w.cell? (ad.add i) = some (.bool (decide ((i : Int) ∈ W)))
theorem RB.old {w w' : World} {A : Option Addr} {n : Nat} {W : List Int} (h : RB w A n W) (hb : ∀ k, k < w.heap.size → w'.heap[k]? = w.heap[k]?) : RB w' A n W := by
  intro i hi
  obtain ⟨ad, e, hc⟩ := h i hi
  exact ⟨ad, e, cell_old hc hb⟩
theorem rb_of {w : World} {A : Option Addr} {g : G3} {xs : List Int} (h : Re.BRd w A (reachL g xs)) : RB w A g.ns.length (walkL g xs) := by
  intro i hi
  obtain ⟨ad, e, hc⟩ := h i (by rw [reachL_len]; exact hi)
  rw [reachL_at g xs i hi] at hc
  exact ⟨ad, e, hc⟩
def bkF (f : Nat → Bool) (j : Nat) : Value := .bool (f j)
def upd (f : Nat → Bool) (k : Nat) (j : Nat) : Bool := if j = k then true else f j
theorem upd_mono {f : Nat → Bool} {k j : Nat} (h : f j = true) : upd f k j = true := by unfold upd; split <;> first | rfl | exact h
theorem upd_at (f : Nat → Bool) (k : Nat) : upd f k k = true := by unfold upd; rw [if_pos rfl]
theorem bk_set {w : World} {m n : Nat} {f : Nat → Bool} (h : w.rowIs m 4 n (bkF f)) (k : Nat) : (w.setCell ⟨m, k, none⟩ (.bool true)).rowIs m 4 n (bkF (upd f k)) :=
  (h.set k _).congr fun i _ => by unfold bkF upd; split <;> rfl
theorem below_set {w0 w : World} {m k : Nat} {v : Value} (h : Below w0.heap.size w0 w) (hm : w0.heap.size ≤ m) : Below w0.heap.size w0 (w.setCell ⟨m, k, none⟩ v) :=
  h.trans (Tm.below_of_grown (grown_set w m k v) hm h.size)
/-- Each reached node is one of those it starts from, or referred to by a reached one. -/
theorem back_all {g : G3} {xs : List Int} {f : Nat → Bool} (h1 : ∀ y ∈ xs, isB g.ns.length y = true → f y.toNat = true)
    (h2 : ∀ i, i < g.ns.length → (i : Int) ∈ walkL g xs → ∀ v ∈ (g.ns.getD i zN).fs, v.kd = 3 → isB g.ns.length v.ref = true → f v.ref.toNat = true) : ∀ x ∈ walkL g xs, f x.toNat = true := by
  have key := walk_least (g := g) (xs := xs) (S := fun x => x ∈ walkL g xs ∧ f x.toNat = true) (fun x hx v hv h3 hi => by
    refine ⟨walk_shut g xs x hx.1 v hv h3 hi, ?_⟩
    have hb := isB_iff.1 ((gd_walk g xs).2 x hx.1)
    refine h2 x.toNat (by omega) ?_ v hv h3 hi
    rw [Int.toNat_of_nonneg hb.1]
    exact hx.1) (fun x hx hi => ⟨walk_from hx hi, h1 x hx hi⟩)
  exact fun x hx => (key x hx).2
theorem made_bk {w : World} {n : Nat} : (w.alloc (.cells (madeCells #[.bool false] n) 4)).rowIs w.heap.size 4 n (bkF (fun _ => false)) := (World.rowIs_made w (.bool false) n 4).congr fun i hi => rfl
set_option maxHeartbeats 16000000
set_option maxRecDepth 100000
theorem walk (w : World) (v0 : Value) (x0 : Ba.G3) (hk0 : Ba.GAt w v0 x0) (ok0 : Ba.ok3 x0) (A1 : Option Addr) (c1 : Nat) (x1 : List Int) (hc1 : x1.length ≤ c1) (hr1 : Kd.C (Kd.int .i64) w A1 x1.length x1) (ok1 : x1.length ≤ maxLen ∧ ∀ y ∈ x1, (Lit.int .i64 y).wf = true) :
    Calls Try.prog 4 #[v0, .slice A1 x1.length c1] w fun e w' => e = .returned (.bool true) ∧ Below w.heap.size w w' := by
  have HL := Lib.hid (rd_C hr1)
  have HG := Lib.hid hk0
  have hll := ok1.1
  have HO := Lib.hid ok0
  obtain ⟨AN, cN, AR, cR, AW, cW, rfl, _, _, _, hNN, _, _⟩ := hk0
  have HN := Lib.hid hNN
  have HS := Lib.hid (St.start HG.out)
  have HL1 := Lib.hid (HL.out.below ((Below.refl w.heap.size w).alloc (Nat.le_refl _) (.cells #[.slice AN x0.ns.length cN, .slice AR x0.rs.length cR, .slice AW x0.ws.length cW] 25)).block)
  have HLT := Lib.hid (Re.light_any _ x0 _ HS.out.g HO.out)
  obtain ⟨w1, hw1⟩ : ∃ w1, w.alloc (.cells #[.slice AN x0.ns.length cN, .slice AR x0.rs.length cR, .slice AW x0.ws.length cW] 25) = w1 := ⟨_, rfl⟩
  rw [hw1] at HS HL1 HLT
  obtain ⟨k0, k1, k2⟩ := HS.out.cells
  clear hr1 ok0 ok1 hNN
  cases el : Re.lightG x0
  · rw [el] at HLT
    clear el
    go_enter Try.func4, Try.ntmps4
    go_wp2_with fail
    refine HLT.out.mono ?_
    rintro e w2 ⟨rfl, hb2⟩
    have HS2 := Lib.hid (HS.out.later hb2)
    clear hb2
    go_wp2_with fail
    refine (Aw.awake_any _).mono ?_
    rintro e w3 ⟨rfl, hb3⟩
    have HS3 := Lib.hid (HS2.out.later hb3)
    go_wp2
    go_ret
    exact ⟨rfl, HS3.out.b⟩
  · have hz := Re.light_sz el
    obtain ⟨hn, _, _, _⟩ := Re.light_ns el
    rw [el] at HLT
    clear el
    by_cases h60 : x1.length ≤ 60
    rotate_left
    · go_enter Try.func4, Try.ntmps4
      go_wp2_with fail
      refine HLT.out.mono ?_
      rintro e w2 ⟨rfl, hb2⟩
      have HS2 := Lib.hid (HS.out.later hb2)
      clear hb2
      go_wp2_with fail
      refine (Aw.awake_any _).mono ?_
      rintro e w3 ⟨rfl, hb3⟩
      have HS3 := Lib.hid (HS2.out.later hb3)
      go_wp2
      go_ret
      exact ⟨rfl, HS3.out.b⟩
    · have HZ := Lib.hid hz
      have HM1 : Hid (∀ W, GAt W (.agg #[.slice AN x0.ns.length cN, .slice AR x0.rs.length cR, .slice AW x0.ws.length cW]) x0 → Calls Try.prog 11 #[.agg #[.slice AN x0.ns.length cN, .slice AR x0.rs.length cR, .slice AW x0.ws.length cW]] W (BoolPost (mayG x0) W)) := Lib.hid (fun W h => may_any _ x0 W h HZ.out)
      cases em : mayG x0
      · rw [em] at HM1
        clear em hz
        go_enter Try.func4, Try.ntmps4
        go_wp2_with fail
        refine HLT.out.mono ?_
        rintro e w2 ⟨rfl, hb2⟩
        have HS2 := Lib.hid (HS.out.later hb2)
        obtain ⟨d0, d1, d2⟩ := HS2.out.cells
        clear hb2 k0 k1 k2
        go_wp2_with fail
        refine (HM1.out _ HS2.out.g).mono ?_
        rintro e w3 ⟨rfl, hb3⟩
        have HS3 := Lib.hid (HS2.out.later hb3)
        clear hb3
        go_wp2_with fail
        refine (Aw.awake_any _).mono ?_
        rintro e w4 ⟨rfl, hb4⟩
        have HS4 := Lib.hid (HS3.out.later hb4)
        go_wp2
        go_ret
        exact ⟨rfl, HS4.out.b⟩
      · have HMF := Lib.hid (Tr.may_fields em)
        have HR1 : Hid (∀ W, GAt W (.agg #[.slice AN x0.ns.length cN, .slice AR x0.rs.length cR, .slice AW x0.ws.length cW]) x0 → Rd W A1 x1 → Calls Try.prog 14 #[.agg #[.slice AN x0.ns.length cN, .slice AR x0.rs.length cR, .slice AW x0.ws.length cW], .slice A1 x1.length c1] W (fun e w' => ∃ A c, e = .returned (.slice A x0.ns.length c) ∧ RB w' A x0.ns.length (walkL x0 x1) ∧ Below W.heap.size W w')) := Lib.hid (fun W h h2 => by
          refine (Re.reach_any _ x0 A1 c1 x1 W h HZ.out h2 (by omega)).mono ?_
          rintro e w' ⟨A, c, rfl, _, hba, hb⟩
          have e1 : Re.reachR x0 x1 = reachL x0 x1 := by unfold Re.reachR; rw [em]; rfl
          rw [e1] at hba ⊢
          rw [reachL_len]
          exact ⟨A, c, rfl, rb_of hba, hb⟩)
        rw [em] at HM1
        have HBA : Hid (∀ f : Nat → Bool, (∀ y ∈ x1, isB x0.ns.length y = true → f y.toNat = true) → (∀ i, i < x0.ns.length → (i : Int) ∈ walkL x0 x1 → ∀ v ∈ (x0.ns.getD i zN).fs, v.kd = 3 → isB x0.ns.length v.ref = true → f v.ref.toNat = true) → ∀ x ∈ walkL x0 x1, f x.toNat = true) := Lib.hid (fun f h1 h2 => back_all h1 h2)
        have HWF := Lib.hid (fun x (h : x ∈ x1) hi => walk_from (g := x0) h hi)
        have HWS := Lib.hid (walk_shut x0 x1)
        have HFL : Hid (∀ x ∈ x0.ns, x.fs.length ≤ 1000) := Lib.hid hz.f
        obtain ⟨nN, hnN⟩ : ∃ n, x0.ns.length = n := ⟨_, rfl⟩
        have HNL := Lib.hid hnN
        obtain ⟨W, hWe⟩ : ∃ W, walkL x0 x1 = W := ⟨_, rfl⟩
        rw [hnN] at HM1 HR1 HMF HWF HBA HS HG k0 hw1 hn HLT ⊢
        rw [hWe] at HR1 HBA HWF HWS
        have hmk := print_make_of (P := Try.prog) 29 4 (.bool false) 1 Try.underlying29 Ro.info4 rfl (by decide) nN (by omega)
        clear em hz hnN hWe
        go_enter Try.func4, Try.ntmps4
        go_wp2_with fail
        refine HLT.out.mono ?_
        rintro e w2 ⟨rfl, hb2⟩
        have HS2 := Lib.hid (HS.out.later hb2)
        have HL2 := Lib.hid (HL1.out.below hb2.block)
        obtain ⟨d0, d1, d2⟩ := HS2.out.cells
        clear hb2 k0 k1 k2
        go_wp2_with fail
        refine (HM1.out _ HS2.out.g).mono ?_
        rintro e w3 ⟨rfl, hb3⟩
        have HS3 := Lib.hid (HS2.out.later hb3)
        have HL3 := Lib.hid (HL2.out.below hb3.block)
        obtain ⟨e0, e1, e2⟩ := HS3.out.cells
        clear hb3 d0 d1 d2
        go_wp2_with fail
        refine (HR1.out _ HS3.out.g HL3.out).mono ?_
        rintro e w4 ⟨A5, c5, rfl, hrb, hb4⟩
        have HS4 := Lib.hid (HS3.out.later hb4)
        have HL4 := Lib.hid (HL3.out.below hb4.block)
        have HRB := Lib.hid hrb
        obtain ⟨f0, f1, f2⟩ := HS4.out.cells
        have HROW := Lib.hid (made_bk (w := w4) (n := nN))
        have HB0 := Lib.hid ((Below.refl w4.heap.size w4).alloc (Nat.le_refl _) (.cells (madeCells #[.bool false] nN) 4))
        clear hrb hb4 e0 e1 e2
        go_wp2
        go_loopw [42] (fun i wr => ∃ (t : Nat) (f : Nat → Bool), t ≤ x1.length ∧ i = .int .i64 (t : Int) ∧ wr.rowIs w4.heap.size 4 nN (bkF f) ∧ (∀ y ∈ x1.take t, isB nN y = true → f y.toNat = true) ∧ Below w4.heap.size w4 wr) (fun i _ => x1.length - (intOf i).toNat)
        case atStart => exact ⟨0, _, Nat.zero_le _, rfl, HROW.out, fun y hy => by simp at hy, HB0.out⟩
        case round =>
          obtain ⟨t, f, ht, rfl, hrow, hf, hb⟩ := hrel
          have HRW := Lib.hid hrow
          have HF := Lib.hid hf
          have HB := Lib.hid hb
          have hbs := hb.size
          clear hf
          by_cases hlt : t < x1.length
          · obtain ⟨ad, rfl, hc⟩ := (HL4.out.below hb.block) t hlt
            have hmem := mem_getD (d := (0 : Int)) hlt
            have HWFx := Lib.hid (HWF.out _ hmem)
            have HTS := Lib.hid (take_snoc x1 0 t hlt)
            obtain ⟨y, hy⟩ : ∃ y, x1.getD t 0 = y := ⟨_, rfl⟩
            rw [hy] at hc HWFx HTS
            clear hy hmem
            by_cases h0 : 0 ≤ y
            · by_cases h1 : y < (nN : Int)
              · obtain ⟨k, rfl⟩ : ∃ k : Nat, y = (k : Int) := ⟨y.toNat, by omega⟩
                have hk : k < nN := by omega
                have hkW := HWFx.out (isB_iff.2 ⟨h0, h1⟩)
                have g1 := hrow.cell hk
                have g2 := hrow.frozen k
                unfold bkF at g1
                obtain ⟨w5, hw5⟩ : ∃ w5, wr.setCell ⟨w4.heap.size, k, none⟩ (.bool true) = w5 := ⟨_, rfl⟩
                have HR5 : Hid (w5.rowIs w4.heap.size 4 nN (bkF (upd f k))) := Lib.hid (by rw [← hw5]; exact bk_set HRW.out k)
                have HB5 : Hid (Below w4.heap.size w4 w5) := Lib.hid (by rw [← hw5]; exact below_set HB.out (Nat.le_refl _))
                obtain ⟨ad5, rfl, g3⟩ := (HRB.out.old HB5.out.block) k hk
                rw [decide_eq_true hkW] at g3
                have HF5 : Hid (∀ y ∈ x1.take (t + 1), isB nN y = true → upd f k y.toNat = true) := Lib.hid (by
                  rw [HTS.out]
                  intro y hy hi
                  rcases List.mem_append.1 hy with hy | hy
                  · exact upd_mono (HF.out y hy hi)
                  · rw [List.mem_singleton.1 hy, Int.toNat_natCast]
                    exact upd_at f k)
                clear hrow hb hkW
                go_wp2
                go_roundw
                case rel => exact ⟨t + 1, _, by omega, by go_num, HR5.out, HF5.out, HB5.out⟩
                case measure => simp [intOf]; omega
              · have HF5 : Hid (∀ y ∈ x1.take (t + 1), isB nN y = true → f y.toNat = true) := Lib.hid (by
                  rw [HTS.out]
                  intro z hz hi
                  rcases List.mem_append.1 hz with hz | hz
                  · exact HF.out z hz hi
                  · rw [List.mem_singleton.1 hz] at hi
                    exact absurd (isB_iff.1 hi).2 h1)
                clear hrow hb
                go_wp2
                go_roundw
                case rel => exact ⟨t + 1, _, by omega, by go_num, HRW.out, HF5.out, HB.out⟩
                case measure => simp [intOf]; omega
            · have HF5 : Hid (∀ y ∈ x1.take (t + 1), isB nN y = true → f y.toNat = true) := Lib.hid (by
                rw [HTS.out]
                intro z hz hi
                rcases List.mem_append.1 hz with hz | hz
                · exact HF.out z hz hi
                · rw [List.mem_singleton.1 hz] at hi
                  exact absurd (isB_iff.1 hi).1 h0)
              clear hrow hb
              go_wp2
              go_roundw
              case rel => exact ⟨t + 1, _, by omega, by go_num, HRW.out, HF5.out, HB.out⟩
              case measure => simp [intOf]; omega
          · obtain rfl : x1.length = t := by omega
            have HF1 := Lib.hid HF.out
            rw [List.take_length] at HF1
            obtain ⟨wa, rfl⟩ : ∃ wa : World, wa = wr := ⟨_, rfl⟩
            have hst := HS4.out.later hb
            obtain ⟨m0, m1, m2⟩ := hst.cells
            clear hrow hb HF hst f0 f1 f2
            go_wp2
            go_loopw [66] (fun i wr => ∃ (t : Nat) (f : Nat → Bool), t ≤ nN ∧ i = .int .i64 (t : Int) ∧ wr.rowIs w4.heap.size 4 nN (bkF f) ∧ (∀ y ∈ x1, isB nN y = true → f y.toNat = true) ∧ (∀ i, i < t → (i : Int) ∈ W → ∀ v ∈ (x0.ns.getD i zN).fs, v.kd = 3 → isB nN v.ref = true → f v.ref.toNat = true) ∧ Below w4.heap.size w4 wr) (fun i _ => nN - (intOf i).toNat)
            case atStart => exact ⟨0, _, Nat.zero_le _, rfl, HRW.out, HF1.out, fun i hi => absurd hi (Nat.not_lt_zero i), HB.out⟩
            case round =>
              clear m0 m1 m2 HF1 HRW HB hbs
              obtain ⟨t, f, ht, rfl, hrow, hf, hg, hb⟩ := hrel
              have HRW := Lib.hid hrow
              have HF := Lib.hid hf
              have HGG := Lib.hid hg
              have HB := Lib.hid hb
              have hbs := hb.size
              have HBW : Hid (Below w.heap.size w wr) := Lib.hid (HS4.out.later hb).b
              clear hf hg hrow hb
              by_cases hlt : t < nN
              · obtain ⟨ad, rfl, y0, A7, c7, y1, _, hfv⟩ := HN.out t (by rw [HNL.out]; exact hlt)
                have y0 := cell_old y0 HBW.out.block
                have y1 := cell_old y1 HBW.out.block
                have hmem := mem_getD (d := zN) (show t < x0.ns.length by rw [HNL.out]; exact hlt)
                have hzl := HFL.out _ hmem
                have HFM := Lib.hid (HMF.out _ hmem)
                have HND : Hid (Pu.nd x0 (t : Int) = x0.ns.getD t zN) := Lib.hid (by unfold Pu.nd; rw [Int.toNat_natCast])
                have HSH := Lib.hid (HWS.out (t : Int))
                rw [HND.out] at HSH
                obtain ⟨xn, hxn⟩ : ∃ x, x0.ns.getD t zN = x := ⟨_, rfl⟩
                rw [hxn] at y0 y1 hfv hzl HFM HSH
                have HXN := Lib.hid hxn
                obtain ⟨kd, fs⟩ := xn
                dsimp only at y0 y1 hfv hzl HFM HSH
                have HFV := Lib.hid hfv
                have HR0 := Lib.hid (HRW.out.alloc (.cells #[.int .i64 kd, .slice A7 fs.length c7] 34))
                have HB1 := Lib.hid (HB.out.alloc hbs (.cells #[.int .i64 kd, .slice A7 fs.length c7] 34))
                have HBZ := Lib.hid ((Below.refl wr.heap.size wr).alloc (Nat.le_refl _) (.cells #[.int .i64 kd, .slice A7 fs.length c7] 34))
                obtain ⟨wb, rfl⟩ : ∃ wb : World, wb = wr := ⟨_, rfl⟩
                have HW4B := Lib.hid hbs
                clear hxn hfv hmem hbs
                go_wp2
                go_loopw [74] (fun i wr => ∃ (u : Nat) (f : Nat → Bool), u ≤ fs.length ∧ i = .int .i64 (u : Int) ∧ wr.rowIs w4.heap.size 4 nN (bkF f) ∧ (∀ y ∈ x1, isB nN y = true → f y.toNat = true) ∧ (∀ i, i < t → (i : Int) ∈ W → ∀ v ∈ (x0.ns.getD i zN).fs, v.kd = 3 → isB nN v.ref = true → f v.ref.toNat = true) ∧ ((t : Int) ∈ W → ∀ v ∈ fs.take u, v.kd = 3 → isB nN v.ref = true → f v.ref.toNat = true) ∧ Below w4.heap.size w4 wr) (fun i _ => fs.length - (intOf i).toNat)
                case atStart => exact ⟨0, f, Nat.zero_le _, rfl, HR0.out, HF.out, HGG.out, fun _ v hv => by simp at hv, HB1.out⟩
                case round =>
                  clear HR0 HF HGG HB1 y0 y1 HRW HB HBZ
                  obtain ⟨u, f, hu, rfl, hrow, hf, hg, hh, hb⟩ := hrel
                  have hfv := HFV.out.old (HS4.out.later hb).b.block
                  have HF := Lib.hid hf
                  have HGG := Lib.hid hg
                  have HHH := Lib.hid hh
                  have hbs := hb.size
                  clear hf hg hh
                  by_cases hlt2 : u < fs.length
                  · obtain ⟨ad3, rfl, hc⟩ := hfv u hlt2
                    have hm2 := mem_getD (d := z5) hlt2
                    have HTS := Lib.hid (take_snoc fs z5 u hlt2)
                    have HK3 := Lib.hid (HFM.out _ hm2)
                    have HS3' := Lib.hid (fun hx => HSH.out hx _ hm2)
                    obtain ⟨x, hx⟩ : ∃ x, fs.getD u z5 = x := ⟨_, rfl⟩
                    rw [hx] at hc HTS HK3 HS3'
                    clear hx hm2
                    obtain ⟨p0, p1, p2, p3, p4⟩ := hc
                    obtain ⟨e0, e1, e2, e3, e4⟩ := x
                    dsimp only at p0 p1 p2 p3 p4 HK3 HS3'
                    have hba := (Below.refl wr.heap.size wr).alloc (Nat.le_refl _) (.cells #[.int .i64 e0, .int .i64 e1, .int .u64 e2, .int .u64 e3, .int .i64 e4] 37)
                    have hrow2 := hrow.alloc (.cells #[.int .i64 e0, .int .i64 e1, .int .u64 e2, .int .u64 e3, .int .i64 e4] 37)
                    have HR2 := Lib.hid hrow2
                    have HB2 := Lib.hid (hb.trans (hba.mono hbs))
                    by_cases h3 : e0 = 3
                    · subst h3
                      obtain ⟨r0, r1⟩ := HK3.out rfl
                      obtain ⟨k, rfl⟩ : ∃ k : Nat, e4 = (k : Int) := ⟨e4.toNat, by omega⟩
                      have hk : k < nN := by omega
                      obtain ⟨ad5, hA5, g0⟩ := (HRB.out.old HB2.out.block) t hlt
                      by_cases htW : (t : Int) ∈ W
                      · rw [decide_eq_true htW] at g0
                        have hkW := HS3'.out htW rfl (by rw [HNL.out]; exact isB_iff.2 ⟨by omega, by omega⟩)
                        have g1 := hrow2.cell hk
                        have g2 := hrow2.frozen k
                        unfold bkF at g1
                        obtain ⟨w5, hw5⟩ : ∃ w5, (wr.alloc (.cells #[.int .i64 3, .int .i64 e1, .int .u64 e2, .int .u64 e3, .int .i64 (k : Int)] 37)).setCell ⟨w4.heap.size, k, none⟩ (.bool true) = w5 := ⟨_, rfl⟩
                        have HR5 : Hid (w5.rowIs w4.heap.size 4 nN (bkF (upd f k))) := Lib.hid (by rw [← hw5]; exact bk_set HR2.out k)
                        have HB5 : Hid (Below w4.heap.size w4 w5) := Lib.hid (by rw [← hw5]; exact below_set HB2.out (Nat.le_refl _))
                        obtain ⟨ad6, hA6, g3⟩ := (HRB.out.old HB5.out.block) k hk
                        rw [decide_eq_true hkW] at g3
                        subst hA5
                        injection hA6 with hA6
                        subst hA6
                        have p4' : w5.cell? ⟨wr.heap.size, 4, none⟩ = some (.int .i64 (k : Int)) := by
                          have hbx : Bx5 w5 wr.heap.size ⟨3, e1, e2, e3, (k : Int)⟩ := by
                            rw [← hw5]
                            exact (Below.heap_setCell _ _ _ _ (fun e => by have : wr.heap.size = w4.heap.size := e; have := hrow.lt; omega)).trans (heap_alloc_new wr _)
                          exact (Bx5.cells hbx).2.2.2.2
                        have HF5 : Hid (∀ y ∈ x1, isB nN y = true → upd f k y.toNat = true) := Lib.hid (fun y hy hi => upd_mono (HF.out y hy hi))
                        have HG5 : Hid (∀ i, i < t → (i : Int) ∈ W → ∀ v ∈ (x0.ns.getD i zN).fs, v.kd = 3 → isB nN v.ref = true → upd f k v.ref.toNat = true) := Lib.hid (fun i hi hw v hv h1 h2 => upd_mono (HGG.out i hi hw v hv h1 h2))
                        have HH5 : Hid ((t : Int) ∈ W → ∀ v ∈ fs.take (u + 1), v.kd = 3 → isB nN v.ref = true → upd f k v.ref.toNat = true) := Lib.hid (fun hw v hv h1 h2 => by
                          rw [HTS.out] at hv
                          rcases List.mem_append.1 hv with hv | hv
                          · exact upd_mono (HHH.out hw v hv h1 h2)
                          · rw [List.mem_singleton.1 hv]
                            show upd f k ((k : Int)).toNat = true
                            rw [Int.toNat_natCast]
                            exact upd_at f k)
                        clear hrow hrow2 hb hba hfv hkW htW
                        go_wp2
                        go_roundw
                        case rel => exact ⟨u + 1, _, by omega, by go_num, HR5.out, HF5.out, HG5.out, HH5.out, HB5.out⟩
                        case measure => simp [intOf]; omega
                      · rw [decide_eq_false htW] at g0
                        subst hA5
                        have HH5 : Hid ((t : Int) ∈ W → ∀ v ∈ fs.take (u + 1), v.kd = 3 → isB nN v.ref = true → f v.ref.toNat = true) := Lib.hid (fun hw => absurd hw htW)
                        clear hrow hrow2 hb hba hfv htW
                        go_wp2
                        go_roundw
                        case rel => exact ⟨u + 1, _, by omega, by go_num, HR2.out, HF.out, HGG.out, HH5.out, HB2.out⟩
                        case measure => simp [intOf]; omega
                    · have e5 : (e0 == 3) = false := by rw [beq_eq_false_iff_ne]; exact h3
                      have HH5 : Hid ((t : Int) ∈ W → ∀ v ∈ fs.take (u + 1), v.kd = 3 → isB nN v.ref = true → f v.ref.toNat = true) := Lib.hid (fun hw v hv h1 h2 => by
                        rw [HTS.out] at hv
                        rcases List.mem_append.1 hv with hv | hv
                        · exact HHH.out hw v hv h1 h2
                        · rw [List.mem_singleton.1 hv] at h1
                          exact absurd h1 h3)
                      clear hrow hrow2 hb hba hfv h3
                      go_wp2
                      go_roundw
                      case rel => exact ⟨u + 1, _, by omega, by go_num, HR2.out, HF.out, HGG.out, HH5.out, HB2.out⟩
                      case measure => simp [intOf]; omega
                  · obtain rfl : fs.length = u := by omega
                    have HG5 : Hid (∀ i, i < t + 1 → (i : Int) ∈ W → ∀ v ∈ (x0.ns.getD i zN).fs, v.kd = 3 → isB nN v.ref = true → f v.ref.toNat = true) := Lib.hid (fun i hi hw v hv h1 h2 => by
                      by_cases hit : i < t
                      · exact HGG.out i hit hw v hv h1 h2
                      · obtain rfl : i = t := by omega
                        rw [HXN.out] at hv
                        have := HHH.out hw
                        rw [List.take_length] at this
                        exact this v hv h1 h2)
                    have HR5 := Lib.hid hrow
                    have HB5 := Lib.hid hb
                    clear hrow hb hfv
                    go_wp2
                    go_roundw
                    case rel => exact ⟨t + 1, _, by omega, by go_num, HR5.out, HF.out, HG5.out, HB5.out⟩
                    case measure => simp [intOf]; omega
              · obtain rfl : nN = t := by omega
                have HALL := Lib.hid (HBA.out f HF.out HGG.out)
                obtain ⟨wc, rfl⟩ : ∃ wc : World, wc = wr := ⟨_, rfl⟩
                clear hbs
                go_wp2
                go_loop [101] (fun i => ∃ t : Nat, t ≤ nN ∧ i = .int .i64 (t : Int)) (fun i => nN - (intOf i).toNat)
                case atStart => exact ⟨0, Nat.zero_le _, rfl⟩
                case round =>
                  obtain ⟨t, ht, rfl⟩ := hrel
                  by_cases hlt : t < nN
                  · obtain ⟨ad5, rfl, g0⟩ := (HRB.out.old HB.out.block) t hlt
                    have g1 := HRW.out.cell hlt
                    unfold bkF at g1
                    by_cases htW : (t : Int) ∈ W
                    · have := HALL.out _ htW
                      rw [Int.toNat_natCast] at this
                      rw [this] at g1
                      rw [decide_eq_true htW] at g0
                      clear this htW
                      go_wp2
                      go_round
                      case rel => exact ⟨t + 1, by omega, by go_num⟩
                      case measure => simp [intOf]; omega
                    · rw [decide_eq_false htW] at g0
                      clear htW
                      go_wp2
                      go_round
                      case rel => exact ⟨t + 1, by omega, by go_num⟩
                      case measure => simp [intOf]; omega
                  · obtain rfl : nN = t := by omega
                    have HSF := Lib.hid (HS4.out.later HB.out)
                    go_wp2_with fail
                    refine (Aw.awake_any _).mono ?_
                    rintro e w8 ⟨rfl, hb8⟩
                    have HS8 := Lib.hid (HSF.out.later hb8)
                    go_wp2
                    go_ret
                    exact ⟨rfl, HS8.out.b⟩

theorem own : ownKnob Try.prog.godebug = none := by kernel_rfl
theorem laidOut : laidOutB Try.prog = true := by kernel_rfl
set_option maxRecDepth 100000 in
theorem lifted (os : Os) (started : os.Started) (H : Type) (enc : TypeId × Value → H) :
    ReturnsInHanded {} Try.checked os 4 .any (Rows.graphShutsSpec.pre6 enc Try.prog Try.f4 Rows.graphShutsRow.domain false) (Rows.graphShutsSpec.post enc Try.prog Try.f4 false true false false) := by
  refine returnsInHanded_of_change (C := Try.checked) own started (by kernel_rfl) Try.func4
    (ChangeSpec.witness6 (enc := enc) (C := Try.checked) false ⟨#[], #[.agg #[.slice none 0 0, .slice none 0 0, .slice none 0 0], .slice none 0 0], []⟩ 8 (by kernel_rfl) (by kernel_rfl) (by kernel_rfl) (by kernel_rfl)) ?_
  intro W base args ds gs before hval0 hW hcnd _
  have hval : ∀ (j : Nat) t v, Try.f4.params[j]? = some t → args[j]? = some v → Value.okWide Try.prog W .any base t v := hval0
  have hW' := hW
  obtain ⟨p, q, hA0, hV, rfl, hfz, hnd⟩ := hW
  have hA : DataW.TrodAll enc Try.prog W 0 (fun _ => true) true Try.f4.params.toList args.toList ds p := hA0
  rw [Try.params4] at hA hval
  obtain ⟨v0, vs0, d0, ds0, p0, q0, hargs, rfl, rfl, h0, r0⟩ := trodAll_cons hA
  obtain ⟨v1, vs1, d1, ds1, p1, q1, rfl, rfl, rfl, h1, r1⟩ := trodAll_cons r0
  obtain ⟨rfl, rfl, rfl⟩ := trodAll_nil r1
  obtain rfl : args = #[v0, v1] := by cases args; simp_all
  obtain ⟨rfl, rfl⟩ := trodVars_none hV
  have k0 := h0
  have lt0 : ∀ x ∈ p0, x.block < W.heap.size := by obtain ⟨m, hm⟩ := k0; exact DataW.trod_lt m _ _ _ hm
  obtain ⟨fuel0, hf0⟩ := h0
  obtain ⟨x0, hk0, ok0⟩ := (Ba.opens_g3) H enc W 0 _ _ _ _ _ hf0
  have hg0 := Ba.gat_of (hval 0 25 v0 rfl rfl) hk0
  obtain ⟨a1, len1, cap1, rfl⟩ := okWide_slice Try.underlying23 (hval 1 23 v1 rfl rfl)
  have k1 := h1
  have lt1 : ∀ x ∈ p1, x.block < W.heap.size := by obtain ⟨m, hm⟩ := k1; exact DataW.trod_lt m _ _ _ hm
  obtain ⟨fuel1, hf1⟩ := h1
  obtain ⟨x1, ⟨A1, c1, e1, hc1, hr1⟩, ok1⟩ := Op.opens_slice (n := 3) Try.underlying23 (by kernel_rfl) (Op.opens_int Try.underlying3) H enc W 0 _ _ _ _ _ hf1
  obtain ⟨rfl, rfl, rfl⟩ : a1 = A1 ∧ len1 = x1.length ∧ cap1 = c1 := by simpa [Value.cells] using e1
  clear hA0 hval0
  refine (walk W _ x0 hg0 ok0 _ _ x1 hc1 hr1 ok1).mono fun e W' ⟨he, bel⟩ => ?_
  subst he
  exact ⟨_, rfl, _, _, _, [], _, [], hW', trodAll_mk1 (shut_bool Try.underlying4 _), (trodAll_cons_mk (Below.trod laidOut (by kernel_rfl) (of_decide_eq_true (by kernel_rfl)) k0 bel lt0) (trodAll_cons_mk (Below.trod laidOut (by kernel_rfl) (of_decide_eq_true (by kernel_rfl)) k1 bel lt1) trodAll_mk0)), rfl, bel.frame _, fun h => by cases h⟩
theorem over : Rows.graphShutsRow.holds Try.pinned (OpenSpec.ofChange Rows.graphShutsSpec) :=
  OpenClaim.holds_of_wide 4 Try.f4 rfl rfl rfl rfl rfl rfl rfl ⟨rfl, rfl, rfl, rfl, rfl⟩ rfl rfl rfl rfl rfl (by kernel_rfl) Try.func4 (by kernel_rfl)
    (of_decide_eq_true (by kernel_rfl)) (by unfold Func.isWrapper; first | (rw [if_pos (by decide +kernel)]; kernel_rfl) | (rw [if_neg (by decide +kernel)]; exact ⟨rfl, rfl⟩))
    (fun os started H enc _ => lifted os started H enc)
theorem proved : Rows.GraphShutsSaid := over
#print axioms proved
end Go.Proofs.Ytdgclpgjoanimaa.graphShuts
