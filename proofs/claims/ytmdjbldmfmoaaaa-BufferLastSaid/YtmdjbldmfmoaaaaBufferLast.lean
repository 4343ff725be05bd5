/-
  BufferLast: of each place the last write counts, where it came first.
-/
import Derived.Test.YtmdjbldmfmoaaaaRows
import Derived.WalkKit
import Derived.WalkSpells
import Derived.WalkLawsBesides
import Derived.WalkMore
import Derived.ProofKit
import Derived.OpenShut
import Derived.ShutString
import Derived.ChangeOld
import Derived.Below
import Derived.SizedLaws
import Derived.Lib.Hide
import Derived.Test.YtmdjbldmfmoaaaaOpen
import Derived.Test.YtmdjbldmfmoaaaaBp
import Derived.Deep.DeepMust
namespace Go.Proofs.Ytmdjbldmfmoaaaa.bufferLast
open Go.RowKit Go.ChangeShapes Go.WideShapes Go.ChangeAt Go.Proofs.YtmdjbldmfmoaaaaW.PrintWords
set_option linter.unusedVariables false
open Ba Bu Bw Bl Bn Bs Bq Bp
theorem guard_and (a b : Bool) : (if a = true then b else false) = (a && b) := by cases a <;> rfl
set_option maxHeartbeats 8000000 in
set_option maxRecDepth 100000 in
theorem walk (w : World) (A0 : Option Addr) (c0 : Nat) (x0 : List Ba.W8) (hc0 : x0.length ≤ c0) (hr0 : Kd.C Ba.k8 w A0 x0.length x0) (ok0 : x0.length ≤ maxLen ∧ ∀ y ∈ x0, Ba.ok8 y) :
    Calls Try.prog 6 #[.slice A0 x0.length c0] w fun e w' => e = .returned (.bool true) ∧ Below w.heap.size w w' := by
  have HC := Lib.hid hr0
  have hlen0 : x0.length ≤ maxLen := ok0.1
  clear hr0 ok0
  have HA := Lib.hid (bt_new w)
  go_enter Try.func6, Try.ntmps6
  go_wp2_with fail
  refine (new_any _).mono ?_
  rintro e w1 ⟨rfl, rfl⟩
  go_wp2
  go_loopw [4, 5] (fun va i wr => ∃ (k : Nat) (v : Value), k ≤ x0.length ∧ k ≤ 60 ∧ i = .int .i64 (k : Int) ∧ Bt w wr v va (pl (x0.take k)) (accL (x0.take k))) (fun _ i _ => x0.length - (intOf i).toNat)
  case atStart => exact ⟨0, _, by omega, by omega, rfl, HA.out⟩
  case round =>
    obtain ⟨k, v, hk, hk60, rfl, ha⟩ := hrel
    have hbw := ha.b
    by_cases hgo : k < x0.length ∧ k < 60
    · obtain ⟨hlt, hl60⟩ := hgo
      obtain ⟨ad, rfl, hcw⟩ := at_W8 HC.out k hlt
      have hpl := pl_len (x0.take k)
      rw [List.length_take] at hpl
      have HS := Lib.hid (show pl (x0.take (k + 1)) = putL (pl (x0.take k)) (x0.getD k z8) by rw [take_snoc x0 z8 k hlt, pl_snoc])
      have HE := Lib.hid (putE_small (l := pl (x0.take k)) (x := x0.getD k z8) (by omega))
      have HT := Lib.hid (show accL (x0.take (k + 1)) = accL (x0.take k) ++ (if mayB (x0.getD k z8) = true then [x0.getD k z8] else []) by rw [take_snoc x0 z8 k hlt, accL_snoc])
      have htl : (accL (x0.take k)).length ≤ 60 := Nat.le_trans (List.length_filter_le _ _) (by rw [List.length_take]; omega)
      obtain ⟨x, hx⟩ : ∃ x, x0.getD k z8 = x := ⟨_, rfl⟩
      rw [hx] at hcw HS HE HT
      have hc := At8.below hcw hbw
      have HCW := Lib.hid hcw
      clear hx hpl hcw
      obtain ⟨P, hP⟩ : ∃ P, accL (x0.take k) = P := ⟨_, rfl⟩
      rw [hP] at ha HT htl
      clear hP
      obtain ⟨q0, q1, q2, q3, q4, q5, q6, q7⟩ := hc
      obtain ⟨g0, g1, g2, ⟨g3, g4, g5, g6, g7⟩⟩ := x
      dsimp only at q0 q1 q2 q3 q4 q5 q6 q7
      have HA1 := Lib.hid ha
      have e1 : ((k : Int) < (x0.length : Int)) = True := by simp; omega
      have i0 : (0 : Int) ≤ (k : Int) := by omega
      have i1 : (k : Int) < (x0.length : Int) := by omega
      have i2 : (k : Int) < 60 := by omega
      clear ha
      obtain ⟨m, hm⟩ : ∃ m, mayB ⟨g0, g1, g2, ⟨g3, g4, g5, g6, g7⟩⟩ = m := ⟨_, rfl⟩
      rw [hm] at HE HT
      clear hm
      go_wp2_with fail
      refine (put_any w.heap.size w.heap.size v _ ⟨g0, g1, g2, ⟨g3, g4, g5, g6, g7⟩⟩ _ HA1.out.f).mono ?_
      rintro e w2 ⟨rfl, v2, hf2, hk2, hat2⟩
      have ha2 := HA1.out.put hf2 hk2 hat2
      rw [← HS.out] at ha2
      rw [HE.out]
      have HA2 := Lib.hid ha2
      clear hf2 hk2 hat2
      cases m
      · rw [if_neg (by decide), List.append_nil] at HT
        rw [if_neg (by decide)]
        rw [← HT.out] at HA2
        clear q0 q1 q2 q3 q4 q5 q6 q7 ha2
        go_wp2
        go_roundw
        case rel => exact ⟨k + 1, v2, by omega, by omega, by go_num, HA2.out⟩
        case measure => simp [intOf]; omega
      · rw [if_pos rfl] at HT
        rw [if_pos rfl]
        have hb2 := ha2.b
        have hb2s := hb2.size
        obtain ⟨q0, q1, q2, q3, q4, q5, q6, q7⟩ := At8.below HCW.out hb2
        dsimp only at q0 q1 q2 q3 q4 q5 q6 q7
        have ne2 := Lib.hid ha2
        clear ha2
        go_wp2_with (at_builtin; refine Kd.R_append (P := Try.prog) k8 (w0 := w) (W := w2) w.heap.size rfl (.tmp 35) (.tmp 40) 32 31 zW 64 rfl Try.underlying32 infoW rfl (by decide) (by decide) _ P ⟨g0, g1, g2, ⟨g3, g4, g5, g6, g7⟩⟩ _ (fun _ => True) (fun _ => False) rfl rfl (k8_M _ _ _ _) (fun _ h => h.elim) (fun _ _ => trivial) HA2.out.a hb2 hb2s ?c1 ?_)
        case c1 => omega
        intro v3 w3 hr3 hb3 hg3 hat3
        rw [← HT.out] at hr3
        have HA3 := Lib.hid (HA2.out.app hr3 hg3 hb3 hat3)
        clear hr3 hb3 hg3 hat3
        go_wp2
        go_roundw
        case rel => exact ⟨k + 1, v2, by omega, by omega, by go_num, HA3.out⟩
        case measure => simp [intOf]; omega
    · have HTL : Hid ((accL (x0.take k)).length ≤ 60) := Lib.hid (Nat.le_trans (List.length_filter_le _ _) (by rw [List.length_take]; omega))
      have HM : Hid (∀ x ∈ accL (x0.take k), mayB x = true) := Lib.hid (fun x hx => (List.mem_filter.1 hx).2)
      have hpa := pl_acc (x0.take k)
      rw [← hpa] at ha
      have hg1 : (k : Int) < (x0.length : Int) → ¬ ((k : Int) < 60) := by omega
      obtain ⟨T, hT⟩ : ∃ T, accL (x0.take k) = T := ⟨_, rfl⟩
      rw [hT] at ha HTL HM
      clear hT hpa
      have HLP := Lib.hid (pl_last T HM.out HTL.out)
      have HFF := Lib.hid (fun i (hi : i < T.length) (hf : Fst T i) => find_first HM.out HTL.out hi hf)
      have hLl := pl_len T
      obtain ⟨L, hL⟩ : ∃ L, pl T = L := ⟨_, rfl⟩
      rw [hL] at ha HLP HFF hLl
      clear hL
      have htl := HTL.out
      have HA1 := Lib.hid ha
      clear ha
      have hk' : k = x0.length ∨ (k < x0.length ∧ k = 60) := by omega
      obtain ⟨wq, rfl⟩ : ∃ wq : World, wq = wr := ⟨_, rfl⟩
      obtain ⟨AT, cT, rfl, _, _⟩ := HA1.out.a.reads
      rcases hk' with rfl | ⟨hkl, rfl⟩
      all_goals
        go_wp2_with fail
        refine (all_any w.heap.size w.heap.size v L _ HA1.out.f).mono ?_
        rintro e w2 ⟨va, rfl, hr2, hb2⟩
        have HA2 := Lib.hid (HA1.out.later hb2)
        obtain ⟨A7, c7, rfl, _, hC7⟩ := hr2.reads
        obtain ⟨AT', cT', eT, _, hCT⟩ := HA2.out.a.reads
        injection eT with e1 _ e2
        subst e1 e2
        have HCL := Lib.hid hC7
        have HCT := Lib.hid hCT
        have HF := Lib.hid HA2.out.f
        have hbw2 := HA2.out.b
        clear hr2 hb2 hC7 hCT HA1 HA2 HA HC
        go_wp2
        go_loopw [8, 46] (fun p i wr => ∃ k : Nat, k ≤ T.length ∧ i = .int .i64 (k : Int) ∧ p = .int .i64 (cnt T k : Int) ∧ Below w2.heap.size w2 wr) (fun _ i _ => T.length - (intOf i).toNat)
        case atStart => exact ⟨0, by omega, rfl, rfl, Below.refl _ _⟩
        case round =>
          obtain ⟨k, hk, rfl, rfl, hb⟩ := hrel
          by_cases hlt : k < T.length
          · obtain ⟨ad, rfl, hcw⟩ := at_W8 HCT.out k hlt
            obtain ⟨x, hx⟩ : ∃ x, T.getD k z8 = x := ⟨_, rfl⟩
            rw [hx] at hcw
            obtain ⟨q0, q1, q2, q3, q4, q5, q6, q7⟩ := At8.below hcw hb
            obtain ⟨g0, g1, g2, ⟨g3, g4, g5, g6, g7⟩⟩ := x
            dsimp only at q0 q1 q2 q3 q4 q5 q6 q7
            have hcl : cnt T k ≤ T.length := Nat.le_trans (List.length_filter_le _ _) (by rw [List.length_range]; omega)
            clear hcw
            obtain ⟨wo, rfl⟩ : ∃ wo : World, wo = wr := ⟨_, rfl⟩
            have HX0 : Hid (Bx8 (wo.alloc (.cells #[.int .i64 g0, .int .i64 g1, .int .i64 g2, .int .i64 g3, .int .i64 g4, .int .u64 g5, .int .u64 g6, .int .i64 g7] 31)) wo.heap.size ⟨g0, g1, g2, ⟨g3, g4, g5, g6, g7⟩⟩) := Lib.hid (heap_alloc_new wo _)
            have HX1 : Hid (Bx8 ((wo.alloc (.cells #[.int .i64 g0, .int .i64 g1, .int .i64 g2, .int .i64 g3, .int .i64 g4, .int .u64 g5, .int .u64 g6, .int .i64 g7] 31)).alloc (.cells #[.int .i64 g0, .int .i64 g1, .int .i64 g2, .int .i64 g3, .int .i64 g4, .int .u64 g5, .int .u64 g6, .int .i64 g7] 31)) wo.heap.size ⟨g0, g1, g2, ⟨g3, g4, g5, g6, g7⟩⟩) := Lib.hid (HX0.out.below ((Below.refl _ _).alloc (Nat.le_refl _) _) (by rw [size_al]; omega))
            have HX2 : Hid (Bx8 ((wo.alloc (.cells #[.int .i64 g0, .int .i64 g1, .int .i64 g2, .int .i64 g3, .int .i64 g4, .int .u64 g5, .int .u64 g6, .int .i64 g7] 31)).alloc (.cells #[.int .i64 g0, .int .i64 g1, .int .i64 g2, .int .i64 g3, .int .i64 g4, .int .u64 g5, .int .u64 g6, .int .i64 g7] 31)) (wo.heap.size + 1) ⟨g0, g1, g2, ⟨g3, g4, g5, g6, g7⟩⟩) := Lib.hid (by have h := heap_alloc_new (wo.alloc (.cells #[.int .i64 g0, .int .i64 g1, .int .i64 g2, .int .i64 g3, .int .i64 g4, .int .u64 g5, .int .u64 g6, .int .i64 g7] 31)) (.cells #[.int .i64 g0, .int .i64 g1, .int .i64 g2, .int .i64 g3, .int .i64 g4, .int .u64 g5, .int .u64 g6, .int .i64 g7] 31); rw [size_al] at h; exact h)
            have hbA := (hb.alloc hb.size (.cells #[.int .i64 g0, .int .i64 g1, .int .i64 g2, .int .i64 g3, .int .i64 g4, .int .u64 g5, .int .u64 g6, .int .i64 g7] 31)).alloc (hb.alloc hb.size (.cells #[.int .i64 g0, .int .i64 g1, .int .i64 g2, .int .i64 g3, .int .i64 g4, .int .u64 g5, .int .u64 g6, .int .i64 g7] 31)).size (.cells #[.int .i64 g0, .int .i64 g1, .int .i64 g2, .int .i64 g3, .int .i64 g4, .int .u64 g5, .int .u64 g6, .int .i64 g7] 31)
            have HX := Lib.hid hx
            clear hx
            go_wp2
            obtain ⟨WA, hWA⟩ : ∃ W, (wo.alloc (.cells #[.int .i64 g0, .int .i64 g1, .int .i64 g2, .int .i64 g3, .int .i64 g4, .int .u64 g5, .int .u64 g6, .int .i64 g7] 31)).alloc (.cells #[.int .i64 g0, .int .i64 g1, .int .i64 g2, .int .i64 g3, .int .i64 g4, .int .u64 g5, .int .u64 g6, .int .i64 g7] 31) = W := ⟨_, rfl⟩
            rw [hWA] at HX1 HX2 hbA
            have hsz : w2.heap.size ≤ wo.heap.size := hb.size
            rw [hWA]
            clear HX0 q0 q1 q2 q3 q4 q5 q6 q7 hWA
            go_loopw [11, 54] (fun b i wi => ∃ j : Nat, j ≤ T.length ∧ i = .int .i64 (j : Int) ∧ b = .bool (fB T k j) ∧ Bx8 wi wo.heap.size ⟨g0, g1, g2, ⟨g3, g4, g5, g6, g7⟩⟩ ∧ Bx8 wi (wo.heap.size + 1) (lst ⟨g0, g1, g2, ⟨g3, g4, g5, g6, g7⟩⟩ (T.take j)) ∧ Below w2.heap.size w2 wi) (fun _ i _ => T.length - (intOf i).toNat)
            case atStart => exact ⟨0, by omega, rfl, by rw [fB_zero], HX1.out, HX2.out, hbA⟩
            case round =>
              obtain ⟨j, hj, rfl, rfl, hxj, htj, hbj⟩ := hrel
              by_cases hltj : j < T.length
              · obtain ⟨ad', e', hcw⟩ := at_W8 HCT.out j hltj
                injection e' with e'
                subst e'
                have HLS := Lib.hid (show lst ⟨g0, g1, g2, ⟨g3, g4, g5, g6, g7⟩⟩ (T.take (j + 1)) = _ by rw [take_snoc T z8 j hltj, lst_snoc])
                have HFY := Lib.hid (fun h => fB_yes (T := T) (i := k) (j := j) h)
                have HFN := Lib.hid (fun h => fB_no (T := T) (i := k) (j := j) h)
                obtain ⟨y, hy⟩ : ∃ y, T.getD j z8 = y := ⟨_, rfl⟩
                rw [hy] at hcw HLS HFY HFN
                rw [HX.out] at HFY HFN
                clear hy
                obtain ⟨q0, q1, q2, q3, q4, q5, q6, q7⟩ := At8.below hcw hbj
                obtain ⟨h0, h1, h2, ⟨h3, h4, h5, h6, h7⟩⟩ := y
                dsimp only at q0 q1 q2 q3 q4 q5 q6 q7
                obtain ⟨p0, p1, p2, p3, p4, p5, p6, p7⟩ := Bx8.cells hxj
                have HBJ := Lib.hid (hbj.alloc hbj.size (.cells #[.int .i64 h0, .int .i64 h1, .int .i64 h2, .int .i64 h3, .int .i64 h4, .int .u64 h5, .int .u64 h6, .int .i64 h7] 31))
                have HT1 := Lib.hid htj
                have HX1 := Lib.hid hxj
                have HY1 : Hid (Bx8 (wr.alloc (.cells #[.int .i64 h0, .int .i64 h1, .int .i64 h2, .int .i64 h3, .int .i64 h4, .int .u64 h5, .int .u64 h6, .int .i64 h7] 31)) wr.heap.size ⟨h0, h1, h2, ⟨h3, h4, h5, h6, h7⟩⟩) := Lib.hid (heap_alloc_new wr _)
                have HLT : wo.heap.size + 1 < wr.heap.size := (Array.getElem?_eq_some_iff.1 htj).1
                have hlw : wo.heap.size < wr.heap.size := by omega
                clear hcw htj hxj hbj
                go_wp2_with fail
                refine (same_any ⟨g0, g1, g2, ⟨g3, g4, g5, g6, g7⟩⟩ ⟨h0, h1, h2, ⟨h3, h4, h5, h6, h7⟩⟩ _).mono ?_
                rintro e w3 ⟨rfl, hb3⟩
                have hbj := HBJ.out.trans (hb3.mono HBJ.out.size)
                have hbl := ((Below.refl wr.heap.size wr).alloc (Nat.le_refl _) (.cells #[.int .i64 h0, .int .i64 h1, .int .i64 h2, .int .i64 h3, .int .i64 h4, .int .u64 h5, .int .u64 h6, .int .i64 h7] 31)).trans (hb3.mono (by rw [size_al]; omega))
                have hx3 := HX1.out.below hbl hlw
                have ht3 := HT1.out.below hbl HLT
                have hy3 := HY1.out.below hb3 (by rw [size_al]; omega)
                obtain ⟨tl, htl2⟩ : ∃ tl, lst ⟨g0, g1, g2, ⟨g3, g4, g5, g6, g7⟩⟩ (T.take j) = tl := ⟨_, rfl⟩
                rw [htl2] at HLS ht3
                obtain ⟨m, hm⟩ : ∃ m, Pm ⟨g0, g1, g2, ⟨g3, g4, g5, g6, g7⟩⟩ ⟨h0, h1, h2, ⟨h3, h4, h5, h6, h7⟩⟩ = m := ⟨_, rfl⟩
                rw [hm] at HLS HFY HFN ⊢
                clear hb3 hbl HX1 HT1 HY1 HBJ htl2 hm p0 p1 p2 p3 p4 p5 p6 p7 q0 q1 q2 q3 q4 q5 q6 q7
                cases m
                · have HFN2 := Lib.hid (HFN.out rfl)
                  rw [if_neg (by decide)] at HLS
                  have HXX := Lib.hid (And.intro hx3 (And.intro ht3 hbj))
                  clear HFY HFN hx3 ht3 hy3 hbj
                  go_wp2
                  go_roundw
                  case rel => exact ⟨j + 1, by omega, congrArg (Value.int .i64) (by omega), congrArg Value.bool HFN2.out.symm, HXX.out.1, by rw [HLS.out]; exact HXX.out.2.1, HXX.out.2.2⟩
                  case measure => simp [intOf]; omega
                · have HFY2 := Lib.hid (HFY.out rfl)
                  rw [if_pos rfl] at HLS
                  have HTH := Lib.hid (Bx8.there8 ht3)
                  obtain ⟨w4, hw4, ht4, hg4⟩ := Bx8.store8 ht3 ⟨h0, h1, h2, ⟨h3, h4, h5, h6, h7⟩⟩
                  have HW4 := Lib.hid hw4
                  obtain ⟨p0, p1, p2, p3, p4, p5, p6, p7⟩ := Bx8.cells hy3
                  have hx4 : Bx8 w4 wo.heap.size ⟨g0, g1, g2, ⟨g3, g4, g5, g6, g7⟩⟩ := (hg4.block _ (Array.getElem?_eq_some_iff.1 hx3).1 (by simp)).trans hx3
                  have hbj4 := hbj.grown hg4 hbj.size (fun k hk => by injection hk with hk; omega)
                  have HXX := Lib.hid (And.intro hx4 (And.intro ht4 hbj4))
                  clear HFN HFY hx3 ht3 hy3 hbj hw4 ht4 hg4 hx4 hbj4
                  have hkj : (k : Int) ≤ (j : Int) ∨ (j : Int) < (k : Int) := by omega
                  go_wp2_with (refine store_named (P := Try.prog) rfl 31 (.tmp 12) (.tmp 69) rfl (wo.heap.size + 1) 0 #[.int .i64 h0, .int .i64 h1, .int .i64 h2, .int .i64 h3, .int .i64 h4, .int .u64 h5, .int .u64 h6, .int .i64 h7] rfl rfl HTH.out infoW8 (all_oneCell_toArray (one8 ⟨h0, h1, h2, ⟨h3, h4, h5, h6, h7⟩⟩)) HW4.out ?_)
                  all_goals
                    refine ⟨⟨j + 1, by omega, congrArg (Value.int .i64) (by omega), ?_, HXX.out.1, by rw [HLS.out]; exact HXX.out.2.1, HXX.out.2.2⟩, by simp [intOf]; omega⟩
                    rename_i h
                    refine congrArg Value.bool (Eq.trans ?_ HFY2.out.symm)
                    simp [h]
              · obtain rfl : j = T.length := by omega
                rw [List.take_length] at htj
                have HFE := Lib.hid (fB_end (T := T) hlt)
                rw [HFE.out]
                by_cases hf : Fst T k
                · obtain ⟨f1, f2, f3, f4, f5, f6⟩ := HFF.out k hlt hf
                  have HCS := Lib.hid (show cnt T (k + 1) = cnt T k + 1 by rw [cnt_succ, if_pos hf])
                  rw [HX.out] at f2 f3 f4 f5 f6
                  rw [decide_eq_true hf]
                  obtain ⟨c, hc⟩ : ∃ c, cnt T k = c := ⟨_, rfl⟩
                  rw [hc] at f1 f2 HCS hcl ⊢
                  obtain ⟨ad7, rfl, hcw⟩ := at_W8 HCL.out c f1
                  rw [f2] at hcw
                  obtain ⟨tl, htl2⟩ : ∃ tl, lst ⟨g0, g1, g2, ⟨g3, g4, g5, g6, g7⟩⟩ T = tl := ⟨_, rfl⟩
                  rw [htl2] at hcw htj f3 f5 f6
                  have hnv : told5 tl.v = (norm tl).v := rfl
                  rw [hnv] at f3 f6
                  obtain ⟨nl, hnl⟩ : ∃ nl, norm tl = nl := ⟨_, rfl⟩
                  rw [hnl] at hcw f3 f5 f6
                  obtain ⟨t0, t1, t2, ⟨t3, t4, t5, t6, t7⟩⟩ := tl
                  obtain ⟨n0, n1, n2, ⟨n3, n4, n5, n6, n7⟩⟩ := nl
                  dsimp only at f3 f4 f6
                  have HNW := Lib.hid hcw
                  obtain ⟨q0, q1, q2, q3, q4, q5, q6, q7⟩ := At8.below hcw hbj
                  dsimp only at q0 q1 q2 q3 q4 q5 q6 q7
                  obtain ⟨p0, p1, p2, p3, p4, p5, p6, p7⟩ := Bx8.cells hxj
                  obtain ⟨r0, r1, r2, r3, r4, r5, r6, r7⟩ := Bx8.cells htj
                  have F3 := Lib.hid f3
                  have F4 := Lib.hid f4
                  have F5 := Lib.hid f5
                  have F6 := Lib.hid f6
                  have HXJ : Hid (Bx8 wr.drew wo.heap.size ⟨g0, g1, g2, ⟨g3, g4, g5, g6, g7⟩⟩) := Lib.hid hxj
                  have HTJ : Hid (Bx8 wr.drew (wo.heap.size + 1) ⟨t0, t1, t2, ⟨t3, t4, t5, t6, t7⟩⟩) := Lib.hid htj
                  have HBJ := Lib.hid hbj.drew
                  have c0 : (c : Int) < (L.length : Int) := by omega
                  have c1 : (0 : Int) ≤ (c : Int) := by omega
                  have c2 : decide (L.length ≤ c) = false := decide_eq_false (by omega)
                  have c3 : decide ((c : Int) ≥ (L.length : Int)) = false := decide_eq_false (by omega)
                  clear f2 f3 f4 f5 f6 hnv hcw hnl htl2 hc hxj htj hbj hf HFE
                  have hsx := (Array.getElem?_eq_some_iff.1 HXJ.out).1
                  have hst := (Array.getElem?_eq_some_iff.1 HTJ.out).1
                  go_wp2
                  go_region_held3 (fun w' => w'.cell? (ad7.add (c * 8)) = some (.int .i64 n0) ∧ w'.cell? ⟨(ad7.add (c * 8)).block, (ad7.add (c * 8)).off + 1, none⟩ = some (.int .i64 n1) ∧ w'.cell? ⟨(ad7.add (c * 8)).block, (ad7.add (c * 8)).off + 2, none⟩ = some (.int .i64 n2) ∧ w'.cell? ⟨(ad7.add (c * 8)).block, (ad7.add (c * 8)).off + 3, none⟩ = some (.int .i64 n3) ∧ w'.cell? ⟨(ad7.add (c * 8)).block, (ad7.add (c * 8)).off + 4, none⟩ = some (.int .i64 n4) ∧ w'.cell? ⟨(ad7.add (c * 8)).block, (ad7.add (c * 8)).off + 5, none⟩ = some (.int .u64 n5) ∧ w'.cell? ⟨(ad7.add (c * 8)).block, (ad7.add (c * 8)).off + 6, none⟩ = some (.int .u64 n6) ∧ w'.cell? ⟨(ad7.add (c * 8)).block, (ad7.add (c * 8)).off + 7, none⟩ = some (.int .i64 n7) ∧ w'.cell? ⟨wo.heap.size, 0, none⟩ = some (.int .i64 g0) ∧ w'.cell? ⟨wo.heap.size, 1, none⟩ = some (.int .i64 g1) ∧ w'.cell? ⟨wo.heap.size, 2, none⟩ = some (.int .i64 g2) ∧ w'.cell? ⟨wo.heap.size, 3, none⟩ = some (.int .i64 g3) ∧ w'.cell? ⟨wo.heap.size, 4, none⟩ = some (.int .i64 g4) ∧ w'.cell? ⟨wo.heap.size, 5, none⟩ = some (.int .u64 g5) ∧ w'.cell? ⟨wo.heap.size, 6, none⟩ = some (.int .u64 g6) ∧ w'.cell? ⟨wo.heap.size, 7, none⟩ = some (.int .i64 g7) ∧ w'.cell? ⟨wo.heap.size + 1, 3, none⟩ = some (.int .i64 t3) ∧ w'.cell? ⟨wo.heap.size + 1, 4, none⟩ = some (.int .i64 t4) ∧ w'.cell? ⟨wo.heap.size + 1, 5, none⟩ = some (.int .u64 t5) ∧ w'.cell? ⟨wo.heap.size + 1, 6, none⟩ = some (.int .u64 t6) ∧ w'.cell? ⟨wo.heap.size + 1, 7, none⟩ = some (.int .i64 t7))
                    (first | go_keep | (refine ⟨?_, ?_, ?_, ?_, ?_, ?_, ?_, ?_, ?_, ?_, ?_, ?_, ?_, ?_, ?_, ?_, ?_, ?_, ?_, ?_, ?_⟩ <;> assumption))
                    (first
                      | (go_at_call 19; go_must (refine (same_any ⟨n0, n1, n2, ⟨n3, n4, n5, n6, n7⟩⟩ ⟨g0, g1, g2, ⟨g3, g4, g5, g6, g7⟩⟩ _).mono ?_; rintro e w3 ⟨rfl, hb3⟩; rw [F5.out]; have ahb := HBJ.out.trans (hb3.mono HBJ.out.size); have ahx := HXJ.out.below hb3 hsx; have aht := HTJ.out.below hb3 hst; obtain ⟨q0, q1, q2, q3, q4, q5, q6, q7⟩ := At8.below HNW.out ahb; dsimp only at q0 q1 q2 q3 q4 q5 q6 q7; obtain ⟨p0, p1, p2, p3, p4, p5, p6, p7⟩ := Bx8.cells ahx; obtain ⟨r0, r1, r2, r3, r4, r5, r6, r7⟩ := Bx8.cells aht))
                      | (go_at_call 20; go_must (refine (sv_any ⟨n3, n4, n5, n6, n7⟩ ⟨t3, t4, t5, t6, t7⟩ _).mono ?_; rintro e w4 ⟨rfl, hb4⟩; rw [F6.out]; have bhb := ahb.trans (hb4.mono ahb.size); have bhx := ahx.below hb4 (Array.getElem?_eq_some_iff.1 ahx).1; have bht := aht.below hb4 (Array.getElem?_eq_some_iff.1 aht).1; obtain ⟨q0, q1, q2, q3, q4, q5, q6, q7⟩ := At8.below HNW.out bhb; dsimp only at q0 q1 q2 q3 q4 q5 q6 q7; obtain ⟨p0, p1, p2, p3, p4, p5, p6, p7⟩ := Bx8.cells bhx; obtain ⟨r0, r1, r2, r3, r4, r5, r6, r7⟩ := Bx8.cells bht)))
                  have HB4 := Lib.hid bhb
                  have HT4 := Lib.hid bht
                  have hs4 := (Array.getElem?_eq_some_iff.1 bht).1
                  have HF4 := Lib.hid (HF.out.later bhb)
                  clear ahb ahx aht bhb bhx bht hb3 hb4 HXJ HTJ HBJ hsx hst
                  clear r0 r1 r2 r3 r4 r5 r6 r7 q0 q1 q2 q3 q4 q5 q6 q7
                  go_wp2_with fail
                  refine (find2_any w.heap.size w.heap.size v L g0 g1 g2 _ HF4.out).mono ?_
                  rintro e w5 ⟨rfl, hb5⟩
                  rw [F3.out, F4.out]
                  unfold agg5
                  dsimp only
                  have hbw5 := HB4.out.trans (hb5.mono HB4.out.size)
                  have hs5 := hb5.size
                  have hs5' : wo.heap.size + 1 < w5.heap.size := by omega
                  have ht5 := HT4.out.below hb5 hs4
                  obtain ⟨r0, r1, r2, r3, r4, r5, r6, r7⟩ := Bx8.cells ht5
                  have HB6 := Lib.hid (hbw5.alloc hbw5.size (.cells #[.int .i64 n3, .int .i64 n4, .int .u64 n5, .int .u64 n6, .int .i64 n7] 28))
                  clear hb5 hbw5 ht5 HB4 HT4 HF4 p0 p1 p2 p3 p4 p5 p6 p7
                  go_wp2_with fail
                  refine (sv_any ⟨n3, n4, n5, n6, n7⟩ ⟨t3, t4, t5, t6, t7⟩ _).mono ?_
                  rintro e w6 ⟨rfl, hb6⟩
                  rw [F6.out]
                  have HB7 := Lib.hid (HB6.out.trans (hb6.mono HB6.out.size))
                  clear hb6 HB6
                  go_wp2
                  go_roundw
                  case rel => exact ⟨k + 1, by omega, by go_num, by rw [HCS.out]; go_num, HB7.out⟩
                  case measure => simp [intOf]; omega
                · have HCS := Lib.hid (show cnt T (k + 1) = cnt T k by rw [cnt_succ, if_neg hf, Nat.add_zero])
                  have HBJ := Lib.hid hbj
                  rw [decide_eq_false hf]
                  clear HFE hbj hxj htj
                  go_wp2
                  go_roundw
                  case rel => exact ⟨k + 1, by omega, by go_num, by rw [HCS.out], HBJ.out⟩
                  case measure => simp [intOf]; omega
          · obtain rfl : k = T.length := by omega
            have HFE := Lib.hid (HF.out.later hb)
            have HBE := Lib.hid (hbw2.trans (hb.mono hbw2.size))
            have hbs := hb.size
            have hbws := hbw2.size
            have ec : ((L.length : Int) == (L.length : Int)) = true := by simp
            rw [← HLP.out.1]
            clear hb hbw2
            go_wp2_with fail
            refine (len_any w.heap.size w.heap.size v L _ HFE.out).mono ?_
            rintro e w5 ⟨rfl, hb5⟩
            have HB5 := Lib.hid (HBE.out.trans (hb5.mono HBE.out.size))
            clear hb5 HFE HBE
            go_wp2_with fail
            refine (awake_any _).mono ?_
            rintro e w6 ⟨rfl, hb6⟩
            have HB6 := Lib.hid (HB5.out.trans (hb6.mono HB5.out.size))
            clear hb6 HB5
            go_wp2
            go_ret
            exact ⟨rfl, HB6.out⟩

theorem own : ownKnob Try.prog.godebug = none := by kernel_rfl
theorem laidOut : laidOutB Try.prog = true := by kernel_rfl
set_option maxRecDepth 100000 in
theorem lifted (os : Os) (started : os.Started) (H : Type) (enc : TypeId × Value → H) :
    ReturnsInHanded {} Try.checked os 6 .any (Rows.bufferLastSpec.pre6 enc Try.prog Try.f6 Rows.bufferLastRow.domain false) (Rows.bufferLastSpec.post enc Try.prog Try.f6 false true false false) := by
  refine returnsInHanded_of_change (C := Try.checked) own started (by kernel_rfl) Try.func6
    (ChangeSpec.witness6 (enc := enc) (C := Try.checked) false ⟨#[], #[.slice none 0 0], []⟩ 8 (by kernel_rfl) (by kernel_rfl) (by kernel_rfl) (by kernel_rfl)) ?_
  intro W base args ds gs before hval0 hW hcnd _
  have hval : ∀ (j : Nat) t v, Try.f6.params[j]? = some t → args[j]? = some v → Value.okWide Try.prog W .any base t v := hval0
  have hW' := hW
  obtain ⟨p, q, hA0, hV, rfl, hfz, hnd⟩ := hW
  have hA : DataW.TrodAll enc Try.prog W 0 (fun _ => true) true Try.f6.params.toList args.toList ds p := hA0
  rw [Try.params6] at hA hval
  obtain ⟨v0, vs0, d0, ds0, p0, q0, hargs, rfl, rfl, h0, r0⟩ := trodAll_cons hA
  obtain ⟨rfl, rfl, rfl⟩ := trodAll_nil r0
  obtain rfl : args = #[v0] := by cases args; simp_all
  obtain ⟨rfl, rfl⟩ := trodVars_none hV
  obtain ⟨a0, len0, cap0, rfl⟩ := okWide_slice Try.underlying32 (hval 0 32 v0 rfl rfl)
  have k0 := h0
  have lt0 : ∀ x ∈ p0, x.block < W.heap.size := by obtain ⟨m, hm⟩ := k0; exact DataW.trod_lt m _ _ _ hm
  obtain ⟨fuel0, hf0⟩ := h0
  obtain ⟨x0, ⟨A0, c0, e0, hc0, hr0⟩, ok0⟩ := Op.opens_slice (n := 31) Try.underlying32 (by kernel_rfl) (Ba.opens_w8) H enc W 0 _ _ _ _ _ hf0
  obtain ⟨rfl, rfl, rfl⟩ : a0 = A0 ∧ len0 = x0.length ∧ cap0 = c0 := by simpa [Value.cells] using e0
  clear hA0 hval0
  refine (walk W _ _ x0 hc0 hr0 ok0).mono fun e W' ⟨he, bel⟩ => ?_
  subst he
  exact ⟨_, rfl, _, _, _, [], _, [], hW', trodAll_mk1 (shut_bool Try.underlying4 _), (trodAll_cons_mk (Below.trod laidOut (by kernel_rfl) (of_decide_eq_true (by kernel_rfl)) k0 bel lt0) trodAll_mk0), rfl, bel.frame _, fun h => by cases h⟩
theorem over : Rows.bufferLastRow.holds Try.pinned (OpenSpec.ofChange Rows.bufferLastSpec) :=
  OpenClaim.holds_of_wide 6 Try.f6 rfl rfl rfl rfl rfl rfl rfl ⟨rfl, rfl, rfl, rfl, rfl⟩ rfl rfl rfl rfl rfl (by kernel_rfl) Try.func6 (by kernel_rfl)
    (of_decide_eq_true (by kernel_rfl)) (by unfold Func.isWrapper; first | (rw [if_pos (by decide +kernel)]; kernel_rfl) | (rw [if_neg (by decide +kernel)]; exact ⟨rfl, rfl⟩))
    (fun os started H enc _ => lifted os started H enc)
theorem proved : Rows.BufferLastSaid := over
#print axioms proved
end Go.Proofs.Ytmdjbldmfmoaaaa.bufferLast
