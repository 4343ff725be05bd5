/-
  closure.Of's row is shut and no more than is needed: what a taken object refers to is taken, each taken one is reached, and behind Entries nothing volatile is left; conditions: those of the statement.
-/
import Derived.Test.YtgkjhnilgmokiaaRows
import Derived.WalkKit
import Derived.WalkSpells
import Derived.WalkLawsBesides
import Derived.WalkMore
import Derived.ProofKit
import Derived.OpenShut
import Derived.ShutString
import Derived.ChangeOld
import Derived.Below
import Derived.SizedLaws
import Derived.Lib.Hide
import Derived.Test.YtgkjhnilgmokiaaOpen
import Derived.Test.YtgkjhnilgmokiaaSh
namespace Go.Proofs.Ytgkjhnilgmokiaa.closureShuts
open Go.RowKit Go.ChangeShapes Go.WideShapes Go.ChangeAt Go.Proofs.YtgkjhnilgmokiaaW.PrintWords
set_option linter.unusedVariables false
open Ha Hp Cl Clo W8 Of Fo Aw Clm Mi Co Fx En Sh
theorem shut_mem {t : List (List Int)} {l : List W8} {X : List Int} (hX : clo (Rt t) 65 (sd l) 0 = X) {x r : Int} (hx : x ∈ X) (hr : r ∈ Rt t x) (hv : vol r = true) : r ∈ X := by
  rw [← hX] at hx ⊢
  exact clo_shut 65 _ 0 (gd_sd l) (by omega) rfl (fun j hj => by omega) x hx r hr hv
theorem seed_mem {t : List (List Int)} {l : List W8} {X : List Int} (hX : clo (Rt t) 65 (sd l) 0 = X) {k : Nat} (hk : k < l.length) (hs : sel (l.getD k z8) = true) (hv : vol (l.getD k z8).v.ref = true) : (l.getD k z8).v.ref ∈ X := by
  rw [← hX]
  exact clo_sub _ _ _ _ (sd_has hk hs hv)
theorem sel_t : ∀ a b c : Bool, true = ((a || b) && c) → (a = true ∧ c = true) ∨ (a = false ∧ b = true ∧ c = true) := by decide
theorem sel_f : ∀ a b c : Bool, false = ((a || b) && c) → (a = true ∧ c = false) ∨ (a = false ∧ b = true ∧ c = false) ∨ (a = false ∧ b = false) := by decide
theorem gd_out {X : List Int} (h : Gd X) {x : Int} (hx : vol x = false) : x ∉ X := fun hm => by rw [h.2 x hm] at hx; cases hx
theorem vol_no1 {x : Int} (h : 0 ≤ x) : vol x = false := by unfold vol; simp; omega
theorem vol_no2 {x : Int} (h : x < -64) : vol x = false := by unfold vol; simp; omega
theorem own_b1 {w : World} {B k : Nat} {v : Value} (h : w.ownsRow B 3 1 v k ((b1 k).map (Value.int .i64))) : w.ownsRow B 3 1 v (b1 k).length ((b1 k).map (Value.int .i64)) := by rw [b1_len]; exact h
theorem wf_of_ok8 {x : W8} (h : ok8 x) : (Lit.int .i64 x.v.ref).wf = true := h.2.2.2.2.2.2.2
set_option maxHeartbeats 32000000 in
set_option maxRecDepth 20000 in
theorem walk (w : World) (A0 : Option Addr) (c0 : Nat) (x0 : List W8.W8) (hc0 : x0.length ≤ c0) (hr0 : Kd.C W8.k8 w A0 x0.length x0) (ok0 : x0.length ≤ maxLen ∧ ∀ y ∈ x0, W8.ok8 y) (A1 : Option Addr) (c1 : Nat) (x1 : List (List Int)) (hc1 : x1.length ≤ c1) (hr1 : Kd.C (Kd.slice 3 (Kd.int .i64)) w A1 x1.length x1) (ok1 : x1.length ≤ maxLen ∧ ∀ y ∈ x1, y.length ≤ maxLen ∧ ∀ z ∈ y, (Lit.int .i64 z).wf = true) :
    Calls Try.prog 10 #[.slice A0 x0.length c0, .slice A1 x1.length c1] w fun e w' => e = .returned (.bool true) ∧ Below w.heap.size w w' := by
  have hm0 := Kd.C_max hr0
  have HR0 := Lib.hid hr0
  have HR1 := Lib.hid hr1
  have HOK0 := Lib.hid ok0.2
  have HOK1 := Lib.hid ok1.2
  clear hr0 hr1 ok0 ok1
  go_enter Try.func10, Try.ntmps10
  go_wp2_with fail
  refine (light_any A1 c1 x1 A0 x0.length c0 w HR1.out hm0).mono ?_
  rintro e w1 ⟨⟨b, rfl, hL⟩, rfl⟩
  cases b
  · clear hL
    go_wp2_with fail
    refine (Aw.awake_any _).mono ?_
    rintro e w1 ⟨rfl, hb⟩
    go_wp2
    go_ret
    exact ⟨rfl, hb⟩
  · obtain ⟨l1, l2, l3⟩ := hL rfl
    have L3 := Lib.hid l3
    clear hL l3
    go_wp2_with fail
    refine (refs_any A1 x1.length c1 w).mono ?_
    rintro e w1 ⟨rfl, rfl⟩
    have hT := Lib.hid (heap_alloc_new w (.cells #[.slice A1 x1.length c1] 23))
    have hb1 := (Below.refl w.heap.size w).alloc (Nat.le_refl _) (.cells #[.slice A1 x1.length c1] 23)
    have hgX := Lib.hid (gd_clo (R := Rt x1) 65 (sd x0) 0 (gd_sd x0))
    go_wp2_with fail
    refine (of_37 x1 A1 c1 w.heap.size A0 c0 x0 _ (Kd.C_below HR0.out hb1) (by omega) hT.out (Kd.C_below HR1.out hb1) L3.out l1).mono ?_
    rintro e w2 ⟨vx, rfl, hox, hb2⟩
    have hb2 := hb1.trans (hb2.mono hb1.size)
    obtain ⟨X, hX⟩ : ∃ X, clo (Rt x1) 65 (sd x0) 0 = X := ⟨_, rfl⟩
    rw [hX] at hox hgX
    have HX := Lib.hid hX
    obtain ⟨_, Ax, cx, rfl, _⟩ := own_rd hox
    have HOX := Lib.hid (own_weaken hox (show 0 ≤ _ by omega))
    have hX64 := gd_le hgX.out
    clear hT hX hox hb1
    have mk : ∀ w, (Instr.makeMap 33 none).run Try.prog w = .ok (.map (some w.heap.size)) (w.alloc (.map #[] 0)) := fun _ => rfl
    have HM := Lib.hid (IM.made w2)
    go_wp2
    go_loopw [31] (fun i wr => ∃ m : Nat, m ≤ X.length ∧ i = .int .i64 (m : Int) ∧ IM wr w2.heap.size m (atF (X.take m)) ∧ Below w2.heap.size w2 wr) (fun i _ => X.length - (intOf i).toNat)
    case atStart => exact ⟨0, by omega, rfl, HM.out, (Below.refl _ _).alloc (Nat.le_refl _) _⟩
    case round =>
      obtain ⟨m, hm, rfl, hM, hb7⟩ := hrel
      by_cases hlt : m < X.length
      · obtain ⟨ady, cy', e, hcy⟩ := own_form (own_below HOX.out hb7 (Nat.le_refl _)) m hlt
        injection e with e1 _ e3
        subst e1 e3
        have hv := hgX.out.2 _ (mem_getD hlt)
        obtain ⟨hv1, hv2⟩ := vol_iff.1 hv
        have hlk := hM.look (X.getD m 0) (wf_vol hv)
        rw [atF_new hgX.out.1 hlt] at hlk
        obtain ⟨w8, hst, hM8, hg8⟩ := hM.store (by unfold maxLen; omega) (X.getD m 0) ((m : Int) + 1) (wf_vol hv) (Go.WalkArith.wf_i64 ⟨by omega, by omega⟩)
        rw [atF_next hgX.out.1 hlt] at hM8
        have hb8 := hb7.grown hg8 hb7.size (fun k hk => by injection hk with hk; omega)
        have HM8 := Lib.hid hM8
        obtain ⟨y, hy⟩ : ∃ y, X.getD m 0 = y := ⟨_, rfl⟩
        rw [hy] at hcy hst hlk hv1 hv2
        clear hM8 hg8 hM hy hv mk
        go_wp2
        go_roundw
        case rel => exact ⟨m + 1, by omega, by go_num, HM8.out, hb8⟩
        case measure => simp [intOf]; omega
      · obtain rfl : m = X.length := by omega
        rw [List.take_length] at hM
        have HM7 := Lib.hid hM
        have HOX7 := Lib.hid (own_below HOX.out hb7 (Nat.le_refl _))
        have hb7 := hb2.trans (hb7.mono hb2.size)
        obtain ⟨w7, rfl⟩ : ∃ w7 : World, w7 = wr := ⟨_, rfl⟩
        have HF0 := Lib.hid (IM.made w7)
        have hm7 := hM.lt
        clear hM HM hb2 HOX
        go_wp2
        clear mk
        go_loopw [56] (fun i wr => ∃ m n : Nat, m ≤ x0.length ∧ i = .int .i64 (m : Int) ∧ n ≤ m ∧ IM wr w7.heap.size n (inF (refsL (x0.take m))) ∧ Below w7.heap.size w7 wr) (fun i _ => x0.length - (intOf i).toNat)
        case atStart => exact ⟨0, 0, by omega, rfl, by omega, HF0.out, (Below.refl _ _).alloc (Nat.le_refl _) _⟩
        case round =>
          obtain ⟨m, n, hm, rfl, hnm, hM, hb8⟩ := hrel
          have hml := hM.lt
          by_cases hlt : m < x0.length
          · obtain ⟨ad, rfl, hc⟩ := at_W8 (Kd.C_below HR0.out (hb7.trans (hb8.mono hb7.size))) m hlt
            have es : refsL (x0.take (m + 1)) = refsL (x0.take m) ++ (if sel (x0.getD m z8) = true then [(x0.getD m z8).v.ref] else []) := by rw [take_next8 x0 m hlt, refsL_snoc]
            have ES := Lib.hid es
            have HSM := Lib.hid (seed_mem HX.out hlt)
            have hwf : (Lit.int .i64 (x0.getD m z8).v.ref).wf = true := wf_of_ok8 (HOK0.out _ (by rw [List.getD_eq_getElem?_getD, List.getElem?_eq_getElem hlt]; exact List.getElem_mem hlt))
            obtain ⟨L, hL⟩ : ∃ L, refsL (x0.take m) = L := ⟨_, rfl⟩
            obtain ⟨x, hx⟩ : ∃ x, x0.getD m z8 = x := ⟨_, rfl⟩
            rw [hL] at hM ES
            rw [hx] at hc ES HSM hwf
            clear hL hx es
            obtain ⟨q0, q1, q2, q3, q4, q5, q6, q7⟩ := hc
            obtain ⟨f0, f1, f2, ⟨f3, f4, f5, f6, f7⟩⟩ := x
            dsimp only at q0 q1 q2 q3 q4 q5 q6 q7 hwf ES HSM
            have hb9 := hb8.alloc hb8.size (.cells #[.int .i64 f0, .int .i64 f1, .int .i64 f2, .int .i64 f3, .int .i64 f4, .int .u64 f5, .int .u64 f6, .int .i64 f7] 38)
            have hM9 := hM.alloc (.cells #[.int .i64 f0, .int .i64 f1, .int .i64 f2, .int .i64 f3, .int .i64 f4, .int .u64 f5, .int .u64 f6, .int .i64 f7] 38)
            have HB9 : Hid (Bx8 (wr.alloc (.cells #[.int .i64 f0, .int .i64 f1, .int .i64 f2, .int .i64 f3, .int .i64 f4, .int .u64 f5, .int .u64 f6, .int .i64 f7] 38)) wr.heap.size ⟨f0, f1, f2, ⟨f3, f4, f5, f6, f7⟩⟩) := Lib.hid (heap_alloc_new wr _)
            have EV := Lib.hid (show sel ⟨f0, f1, f2, ⟨f3, f4, f5, f6, f7⟩⟩ = (((f0 == 1) || (f0 == 2)) && (f3 == 3)) from rfl)
            clear hM
            cases es : sel ⟨f0, f1, f2, ⟨f3, f4, f5, f6, f7⟩⟩
            · rw [es] at EV ES
              rw [if_neg (by decide), List.append_nil] at ES
              have HM9 := Lib.hid hM9
              clear es hM9 HSM
              have ecase : ((f0 == 1) = true ∧ (f3 == 3) = false) ∨ ((f0 == 1) = false ∧ (f0 == 2) = true ∧ (f3 == 3) = false) ∨ ((f0 == 1) = false ∧ (f0 == 2) = false) := by
                exact sel_f _ _ _ EV.out
              clear EV
              rcases ecase with ⟨e1, e3⟩ | ⟨e1, e2, e3⟩ | ⟨e1, e2⟩
              all_goals
                go_wp2
                go_roundw
                case rel => exact ⟨m + 1, n, by omega, by go_num, by omega, by rw [ES.out]; exact HM9.out, hb9⟩
                case measure => simp [intOf]; omega
            · rw [es] at EV ES
              rw [if_pos rfl] at ES
              obtain ⟨w8, hst, hM8, hg8⟩ := hM9.store (by unfold maxLen; omega) f7 1 hwf (by decide)
              rw [inF_add, ← ES.out] at hM8
              have hbb := hb9.grown hg8 hb9.size (fun k hk => by injection hk with hk; omega)
              have hx8 : Bx8 w8 wr.heap.size ⟨f0, f1, f2, ⟨f3, f4, f5, f6, f7⟩⟩ := (hg8.block _ (by rw [size_al]; omega) (by intro e; injection e with e; omega)).trans HB9.out
              obtain ⟨p0, p1, p2, p3, p4, p5, p6, p7⟩ := hx8.cells
              have hlk := (Co.IM.below HM7.out hbb).look f7 hwf
              have HM8 := Lib.hid hM8
              have HSM := Lib.hid (HSM.out es)
              have hcase : (∃ z : Int, (atF X f7).getD 0 = z ∧ (z == 0) = false ∧ f7 < 0 ∧ -64 ≤ f7) ∨ 0 ≤ f7 ∨ (f7 < 0 ∧ f7 < -64) := by
                by_cases h0 : 0 ≤ f7
                · exact .inr (.inl h0)
                · by_cases h1 : f7 < -64
                  · exact .inr (.inr ⟨by omega, h1⟩)
                  · exact .inl ⟨_, atF_pos (HSM.out (vol_iff.2 ⟨by omega, by omega⟩)), by rw [beq_eq_false_iff_ne]; omega, by omega, by omega⟩
              clear es hM8 hg8 hM9 hx8 HB9 hb9 hwf HSM hml
              have ecase : ((f0 == 1) = true ∧ (f3 == 3) = true) ∨ ((f0 == 1) = false ∧ (f0 == 2) = true ∧ (f3 == 3) = true) := by
                exact sel_t _ _ _ EV.out
              clear EV
              rcases hcase with ⟨z, hz, hz0, hz1, hz2⟩ | hq | ⟨hq, hq1⟩
              · rw [hz] at hlk
                clear hz
                rcases ecase with ⟨e1, e3⟩ | ⟨e1, e2, e3⟩
                all_goals
                  go_wp2
                  go_roundw
                  case rel => exact ⟨m + 1, n + 1, by omega, by go_num, by omega, HM8.out, hbb⟩
                  case measure => simp [intOf]; omega
              · clear hlk
                rcases ecase with ⟨e1, e3⟩ | ⟨e1, e2, e3⟩
                all_goals
                  go_wp2
                  go_roundw
                  case rel => exact ⟨m + 1, n + 1, by omega, by go_num, by omega, HM8.out, hbb⟩
                  case measure => simp [intOf]; omega
              · clear hlk
                rcases ecase with ⟨e1, e3⟩ | ⟨e1, e2, e3⟩
                all_goals
                  go_wp2
                  go_roundw
                  case rel => exact ⟨m + 1, n + 1, by omega, by go_num, by omega, HM8.out, hbb⟩
                  case measure => simp [intOf]; omega
          · obtain rfl : m = x0.length := by omega
            rw [List.take_length] at hM
            have HG0 : Hid (IM wr w7.heap.size n (inF (refsL x0))) := Lib.hid hM
            have HFI : Hid (∀ x, FI (Rt x1) x0 X 0 x → inF (refsL x0) x = some 1) := Lib.hid (fun x hx => by
              rcases hx with hx | ⟨j, hj, _⟩
              · unfold inF; rw [if_pos hx]
              · omega)
            have HB8 := Lib.hid hb8
            clear hM HF0
            go_wp2
            go_loopw [12, 99] (fun v i wr => ∃ (i' n : Nat) (g : Int → Option Int), i' ≤ X.length ∧ i = .int .i64 (i' : Int) ∧ n ≤ 80 + 30 * i' ∧ IM wr w7.heap.size n g ∧ (∀ x, FI (Rt x1) x0 X i' x → g x = some 1) ∧ wr.ownsRow (w7.heap.size + 1) 3 1 v i' ((b1 i').map (Value.int .i64)) ∧ Below w7.heap.size w7 wr) (fun _ i _ => X.length - (intOf i).toNat)
            case atStart => exact ⟨0, n, _, by omega, rfl, by omega, HG0.out, HFI.out, own_nil _ _ _ _, HB8.out⟩
            case round =>
              obtain ⟨i, n, g, hi, rfl, hn, hM, hfi, ho, hb9⟩ := hrel
              by_cases hlt : i < X.length
              · obtain ⟨ady, cy', e, hcy⟩ := own_form (own_below HOX7.out hb9 (Nat.le_refl _)) i hlt
                injection e with e1 _ e3
                subst e1 e3
                have hmx : X.getD i 0 ∈ X := mem_getD hlt
                have HV := Lib.hid (hgX.out.2 _ hmx)
                have HSHUT := Lib.hid (fun r => shut_mem HX.out (r := r) hmx)
                have HOWN := Lib.hid (fi_own HX.out hlt)
                have HNEXT := Lib.hid (fun g' h1 h2 => fi_next (R := Rt x1) (l := x0) (X := X) (i := i) (g := g') h1 h2)
                have HROW := Lib.hid (rt_le L3.out (X.getD i 0))
                have HRW : Hid (∀ z ∈ Rt x1 (X.getD i 0), (Lit.int .i64 z).wf = true) := Lib.hid (fun z hz => by
                  unfold Rt at hz
                  split at hz
                  · rename_i hq
                    refine (HOK1.out _ ?_).2 z hz
                    rw [List.getD_eq_getElem?_getD, List.getElem?_eq_getElem (by omega)]
                    exact List.getElem_mem _
                  · cases hz)
                obtain ⟨y, hy⟩ : ∃ y, X.getD i 0 = y := ⟨_, rfl⟩
                rw [hy] at hcy HV HSHUT HOWN HNEXT HROW HRW
                have HM9 := Lib.hid hM
                have HFI9 := Lib.hid hfi
                have HO9 := Lib.hid ho
                have hb10 := hb9.alloc hb9.size (.cells #[.slice A1 x1.length c1] 23)
                have hTw := heap_alloc_new wr (.cells #[.slice A1 x1.length c1] 23)
                have HTW := Lib.hid hTw
                have hml := hM.lt
                clear hy hmx hM hfi ho hTw HB8 HG0 HFI
                go_wp2_with fail
                refine (refs_any A1 x1.length c1 _).mono ?_
                rintro e w10 ⟨rfl, rfl⟩
                go_wp2_with fail
                refine (call37 x1 A1 c1 wr.heap.size y _ HTW.out (Kd.C_below HR1.out (hb7.trans (hb10.mono hb7.size))) L3.out l1 HV.out).mono ?_
                rintro e w11 ⟨Ar, cr, rfl, hr11, hnr, hb11⟩
                have HRr := Lib.hid hr11
                have HRn := Lib.hid hnr
                have hbl := hb10.trans (hb11.mono hb10.size)
                have hs11 := hb11.size
                rw [size_al] at hs11
                have HM11 := Lib.hid (Co.IM.below (HM9.out.alloc (.cells #[.slice A1 x1.length c1] 23)) hb11)
                have HA11 := Lib.hid (Co.IM.below HM7.out hbl)
                have HO11 := Lib.hid (own_below (HO9.out.alloc (.cells #[.slice A1 x1.length c1] 23)) hb11 (Nat.le_refl _))
                obtain ⟨row, hrow⟩ : ∃ row, Rt x1 y = row := ⟨_, rfl⟩
                rw [hrow] at HRr HSHUT HNEXT HROW HRW ⊢
                have hrl := HROW.out
                obtain ⟨wq, rfl⟩ : ∃ wq : World, wq = w11 := ⟨_, rfl⟩
                clear hr11 hnr hrow hb11 HM9 HO9 HTW hcy hb10
                go_wp2
                go_loopw [109] (fun i2 wr => ∃ (q n' : Nat) (g' : Int → Option Int), q ≤ row.length ∧ i2 = .int .i64 (q : Int) ∧ n' ≤ n + q ∧ IM wr w7.heap.size n' g' ∧ (∀ x, FI (Rt x1) x0 X i x → g' x = some 1) ∧ (∀ p, p < q → row.getD p 0 ∈ X → i < X.idxOf (row.getD p 0) → g' (row.getD p 0) = some 1) ∧ wq.grownBy wr (some w7.heap.size)) (fun i _ => row.length - (intOf i).toNat)
                case atStart => exact ⟨0, n, g, by omega, rfl, by omega, HM11.out, HFI9.out, fun p hp => by omega, World.grownBy.refl _ _⟩
                case round =>
                  obtain ⟨q, n', g', hq, rfl, hn', hM, hfi, hpi, hg⟩ := hrel
                  have hA := HA11.out.kept hg (by intro e; injection e with e; omega)
                  by_cases hlq : q < row.length
                  · obtain ⟨adr, rfl, hcr⟩ := (Rd.grown HRr.out hg (fun ad e1 e2 => by have := HRn.out ad e1; injection e2 with e2; rw [size_al] at this; omega)) q hlq
                    have hwf := HRW.out _ (mem_getD hlq)
                    have hsh := HSHUT.out _ (mem_getD hlq)
                    have HPI := Lib.hid (fun (g2 : Int → Option Int) (h : ∀ x, g' x = some 1 → g2 x = some 1) (h2 : row.getD q 0 ∈ X → i < X.idxOf (row.getD q 0) → g2 (row.getD q 0) = some 1) => show (∀ p, p < q + 1 → row.getD p 0 ∈ X → i < X.idxOf (row.getD p 0) → g2 (row.getD p 0) = some 1) from fun p hp h3 h4 => by
                      by_cases e : p = q
                      · subst e; exact h2 h3 h4
                      · exact h _ (hpi p (by omega) h3 h4))
                    obtain ⟨r, hr⟩ : ∃ r, row.getD q 0 = r := ⟨_, rfl⟩
                    rw [hr] at hcr hwf hsh HPI
                    have hlk := hA.look r hwf
                    have HFI2 := Lib.hid hfi
                    clear hr hpi hfi hA
                    have hcase : (r < 0 ∧ -64 ≤ r ∧ r ∈ X ∧ ∃ z : Int, (atF X r).getD 0 = z ∧ (z == 0) = false ∧ ((i : Int) + 1 < z) ∧ i < X.idxOf r) ∨ (r < 0 ∧ -64 ≤ r ∧ r ∈ X ∧ ∃ z : Int, (atF X r).getD 0 = z ∧ (z == 0) = false ∧ ¬ ((i : Int) + 1 < z) ∧ ¬ i < X.idxOf r) ∨ (0 ≤ r ∧ r ∉ X) ∨ (r < 0 ∧ r < -64 ∧ r ∉ X) := by
                      by_cases h0 : 0 ≤ r
                      · exact .inr (.inr (.inl ⟨h0, gd_out hgX.out (vol_no1 h0)⟩))
                      · by_cases h1 : r < -64
                        · exact .inr (.inr (.inr ⟨by omega, h1, gd_out hgX.out (vol_no2 h1)⟩))
                        · have hm := hsh (vol_iff.2 ⟨by omega, by omega⟩)
                          by_cases hi2 : i < X.idxOf r
                          · exact .inl ⟨by omega, by omega, hm, _, atF_pos hm, by rw [beq_eq_false_iff_ne]; omega, by omega, hi2⟩
                          · exact .inr (.inl ⟨by omega, by omega, hm, _, atF_pos hm, by rw [beq_eq_false_iff_ne]; omega, by omega, hi2⟩)
                    clear hsh
                    rcases hcase with ⟨k0, k1, k2, z, hz, hz0, hz1, k3⟩ | ⟨k0, k1, k2, z, hz, hz0, hz1, k3⟩ | ⟨k0, k2⟩ | ⟨k0, k1, k2⟩
                    · rw [hz] at hlk
                      obtain ⟨w12, hst, hM2, hg2⟩ := hM.store (by unfold maxLen; omega) r 1 hwf (by decide)
                      have HM2 := Lib.hid hM2
                      have HG2 := Lib.hid (grown_trans hg hg2)
                      have hP := Lib.hid (HPI.out (fun k => if k = r then some 1 else g' k) (fun x hx => by show (if x = r then some 1 else g' x) = some 1; split; rfl; exact hx) (fun _ _ => if_pos rfl))
                      have hF := Lib.hid (fun x hx => show (if x = r then some 1 else g' x) = some 1 by split; rfl; exact HFI2.out x hx)
                      have hlk2 := (HA11.out.kept HG2.out (by intro e; injection e with e; omega)).look r hwf
                      rw [hz] at hlk2
                      clear hz hM hM2 hg2 k2 k3 hg
                      go_wp2
                      go_roundw
                      case rel => exact ⟨q + 1, n' + 1, _, by omega, by go_num, by omega, HM2.out, hF.out, hP.out, HG2.out⟩
                      case measure => simp [intOf]; omega
                    · rw [hz] at hlk
                      have HMq := Lib.hid hM
                      have HGq := Lib.hid hg
                      have hP := Lib.hid (HPI.out g' (fun x hx => hx) (fun _ h => absurd h k3))
                      clear hz hM k2 k3 hg
                      go_wp2
                      go_roundw
                      case rel => exact ⟨q + 1, n', g', by omega, by go_num, by omega, HMq.out, HFI2.out, hP.out, HGq.out⟩
                      case measure => simp [intOf]; omega
                    all_goals
                      rw [atF_none k2] at hlk
                      have HMq := Lib.hid hM
                      have HGq := Lib.hid hg
                      have hP := Lib.hid (HPI.out g' (fun x hx => hx) (fun h _ => absurd h k2))
                      clear hM k2 hg
                      go_wp2
                      go_roundw
                      case rel => exact ⟨q + 1, n', g', by omega, by go_num, by omega, HMq.out, HFI2.out, hP.out, HGq.out⟩
                      case measure => simp [intOf]; omega
                  · obtain rfl : q = row.length := by omega
                    have hlk := hM.look y (wf_vol HV.out)
                    rw [hfi y HOWN.out] at hlk
                    dsimp only [Option.getD] at hlk
                    have HN2 := Lib.hid (HNEXT.out g' hfi hpi)
                    have hmq := hM.lt
                    have HMq := Lib.hid hM
                    have hbq := hbl.grown hg hbl.size (fun k hk => by injection hk with hk; omega)
                    have HOq := Lib.hid (own_b1 (own_keep HO11.out hg (by omega)))
                    have hb1l := b1_len i
                    have HSN := Lib.hid (b1_snoc i)
                    obtain ⟨L, hL⟩ : ∃ L, b1 i = L := ⟨_, rfl⟩
                    rw [hL] at hb1l HOq HSN
                    have HBL := Lib.hid hb1l
                    have hll : L.length ≤ 64 := by omega
                    obtain ⟨wz, rfl⟩ : ∃ wz : World, wz = wr := ⟨_, rfl⟩
                    clear hM hfi hpi hg hL hb1l HNEXT HOWN HFI9 HRr HM11 HA11 HO11
                    go_wp2_with (at_builtin; refine print_append_num (P := Try.prog) (w0 := wz) (w7.heap.size + 1) rfl (.tmp 138) (.tmp 141) 27 3 .i64 8 rfl Try.underlying27 info3' (by omega) _ L (100 + (i : Int)) rfl rfl HOq.out (Below.refl _ _) hmq ?c1 ?_)
                    case c1 => omega
                    intro v1 w13 ho2 hb2 hg2 _
                    have HM13 := Lib.hid (HMq.out.kept hg2 (by intro e; have := (HOq.out.lt _ e.symm).1; omega))
                    have hb13 := hbq.trans (hb2.mono (by omega))
                    rw [← HSN.out, HBL.out] at ho2
                    have HO2 := Lib.hid ho2
                    clear ho2 hg2 hb2
                    go_wp2
                    go_roundw
                    case rel => exact ⟨i + 1, n', g', by omega, by go_num, by omega, HM13.out, HN2.out, HO2.out, hb13⟩
                    case measure => simp [intOf]; omega
              · obtain rfl : i = X.length := by omega
                have HRX := Lib.hid (own_rd (own_below HOX7.out hb9 (Nat.le_refl _))).2
                obtain ⟨Ab, cb, rfl, hrb⟩ := (own_rd (own_b1 ho)).2
                have HRB := Lib.hid hrb
                have hb1l := b1_len X.length
                have HFX := Lib.hid (fun l' (h : Fixed X (b1 X.length) x0 l') k (hk : k < x0.length) => fixed_lasting (h.2 k hk))
                obtain ⟨L, hL⟩ : ∃ L, b1 X.length = L := ⟨_, rfl⟩
                rw [hL] at hb1l HRB HFX ⊢
                have hll : L.length ≤ 64 := by omega
                obtain ⟨A', c', e, hrx⟩ := HRX.out
                injection e with e1 _ e3
                subst e1 e3
                have HRX := Lib.hid hrx
                obtain ⟨wz, rfl⟩ : ∃ wz : World, wz = wr := ⟨_, rfl⟩
                have hbz := hb7.trans (hb9.mono hb7.size)
                clear hM hfi ho hrb hL hb1l hrx HG0 HFI HB8 hb9 HOX7 HM7
                go_wp2_with fail
                refine (entries_any A0 c0 x0 Ax Ab cx cb X L _ (Kd.C_below HR0.out hbz) (by omega) HRX.out HRB.out (by omega) (by omega)).mono ?_
                rintro e w14 ⟨l', v14, hfix, rfl, hr14, hb14⟩
                have hlen := hfix.1
                have HFX := Lib.hid (HFX.out l' hfix)
                obtain ⟨A14, c14, rfl, hc14⟩ := hr14.reads
                have HC14 := Lib.hid hc14
                have hbz := hbz.trans (hb14.mono hbz.size)
                clear hfix hr14 hc14 hb14 HRX HRB
                go_wp2
                go_loopw [149] (fun i2 wr => ∃ m : Nat, m ≤ l'.length ∧ i2 = .int .i64 (m : Int) ∧ Below w14.heap.size w14 wr) (fun i _ => l'.length - (intOf i).toNat)
                case atStart => exact ⟨0, by omega, rfl, Below.refl _ _⟩
                case round =>
                  obtain ⟨m, hm, rfl, hbm⟩ := hrel
                  by_cases hlm : m < l'.length
                  · obtain ⟨ad, rfl, hc⟩ := at_W8 (Kd.C_below HC14.out hbm) m hlm
                    have hlast := HFX.out m (by omega)
                    obtain ⟨x, hx⟩ : ∃ x, l'.getD m z8 = x := ⟨_, rfl⟩
                    rw [hx] at hc hlast
                    clear hx
                    obtain ⟨q0, q1, q2, q3, q4, q5, q6, q7⟩ := hc
                    obtain ⟨f0, f1, f2, ⟨f3, f4, f5, f6, f7⟩⟩ := x
                    dsimp only at q0 q1 q2 q3 q4 q5 q6 q7 hlast
                    have hbn := hbm.alloc hbm.size (.cells #[.int .i64 f0, .int .i64 f1, .int .i64 f2, .int .i64 f3, .int .i64 f4, .int .u64 f5, .int .u64 f6, .int .i64 f7] 38)
                    clear hbm
                    have hlast2 : (f3 == 3) = false ∨ ((f3 == 3) = true ∧ 0 ≤ f7) := by
                      cases e : (f3 == 3)
                      · exact .inl rfl
                      · exact .inr ⟨rfl, hlast.resolve_left (fun h => h (beq_iff_eq.1 e))⟩
                    clear hlast
                    rcases hlast2 with e1 | ⟨e1, e2⟩
                    all_goals
                      go_wp2
                      go_roundw
                      case rel => exact ⟨m + 1, by omega, by go_num, hbn⟩
                      case measure => simp [intOf]; omega
                  · obtain rfl : m = l'.length := by omega
                    have hbf := hbz.trans (hbm.mono hbz.size)
                    clear hbz hbm
                    go_wp2_with fail
                    refine (Aw.awake_any _).mono ?_
                    rintro e w15 ⟨rfl, hb15⟩
                    have hbf := hbf.trans (hb15.mono hbf.size)
                    clear hb15
                    go_wp2
                    go_ret
                    exact ⟨rfl, hbf⟩

theorem own : ownKnob Try.prog.godebug = none := by kernel_rfl
theorem laidOut : laidOutB Try.prog = true := by kernel_rfl
set_option maxRecDepth 100000 in
theorem lifted (os : Os) (started : os.Started) (H : Type) (enc : TypeId × Value → H) :
    ReturnsInHanded {} Try.checked os 10 .any (Rows.closureShutsSpec.pre6 enc Try.prog Try.f10 Rows.closureShutsRow.domain false) (Rows.closureShutsSpec.post enc Try.prog Try.f10 false true false false) := by
  refine returnsInHanded_of_change (C := Try.checked) own started (by kernel_rfl) Try.func10
    (ChangeSpec.witness6 (enc := enc) (C := Try.checked) false ⟨#[], #[.slice none 0 0, .slice none 0 0], []⟩ 8 (by kernel_rfl) (by kernel_rfl) (by kernel_rfl) (by kernel_rfl)) ?_
  intro W base args ds gs before hval0 hW hcnd _
  have hval : ∀ (j : Nat) t v, Try.f10.params[j]? = some t → args[j]? = some v → Value.okWide Try.prog W .any base t v := hval0
  have hW' := hW
  obtain ⟨p, q, hA0, hV, rfl, hfz, hnd⟩ := hW
  have hA : DataW.TrodAll enc Try.prog W 0 (fun _ => true) true Try.f10.params.toList args.toList ds p := hA0
  rw [Try.params10] at hA hval
  obtain ⟨v0, vs0, d0, ds0, p0, q0, hargs, rfl, rfl, h0, r0⟩ := trodAll_cons hA
  obtain ⟨v1, vs1, d1, ds1, p1, q1, rfl, rfl, rfl, h1, r1⟩ := trodAll_cons r0
  obtain ⟨rfl, rfl, rfl⟩ := trodAll_nil r1
  obtain rfl : args = #[v0, v1] := by cases args; simp_all
  obtain ⟨rfl, rfl⟩ := trodVars_none hV
  obtain ⟨a0, len0, cap0, rfl⟩ := okWide_slice Try.underlying22 (hval 0 22 v0 rfl rfl)
  have k0 := h0
  have lt0 : ∀ x ∈ p0, x.block < W.heap.size := by obtain ⟨m, hm⟩ := k0; exact DataW.trod_lt m _ _ _ hm
  obtain ⟨fuel0, hf0⟩ := h0
  obtain ⟨x0, ⟨A0, c0, e0, hc0, hr0⟩, ok0⟩ := Op.opens_slice (n := 38) Try.underlying22 (by kernel_rfl) (W8.opens_w8) H enc W 0 _ _ _ _ _ hf0
  obtain ⟨rfl, rfl, rfl⟩ : a0 = A0 ∧ len0 = x0.length ∧ cap0 = c0 := by simpa [Value.cells] using e0
  obtain ⟨a1, len1, cap1, rfl⟩ := okWide_slice Try.underlying23 (hval 1 23 v1 rfl rfl)
  have k1 := h1
  have lt1 : ∀ x ∈ p1, x.block < W.heap.size := by obtain ⟨m, hm⟩ := k1; exact DataW.trod_lt m _ _ _ hm
  obtain ⟨fuel1, hf1⟩ := h1
  obtain ⟨x1, ⟨A1, c1, e1, hc1, hr1⟩, ok1⟩ := Op.opens_slice (n := 27) Try.underlying23 (by kernel_rfl) (Op.opens_slice (n := 3) Try.underlying27 (by kernel_rfl) (Op.opens_int Try.underlying3)) H enc W 0 _ _ _ _ _ hf1
  obtain ⟨rfl, rfl, rfl⟩ : a1 = A1 ∧ len1 = x1.length ∧ cap1 = c1 := by simpa [Value.cells] using e1
  clear hA0 hval0
  refine (walk W _ _ x0 hc0 hr0 ok0 _ _ x1 hc1 hr1 ok1).mono fun e W' ⟨he, bel⟩ => ?_
  subst he
  exact ⟨_, rfl, _, _, _, [], _, [], hW', trodAll_mk1 (shut_bool Try.underlying4 _), (trodAll_cons_mk (Below.trod laidOut (by kernel_rfl) (of_decide_eq_true (by kernel_rfl)) k0 bel lt0) (trodAll_cons_mk (Below.trod laidOut (by kernel_rfl) (of_decide_eq_true (by kernel_rfl)) k1 bel lt1) trodAll_mk0)), rfl, bel.frame _, fun h => by cases h⟩
theorem over : Rows.closureShutsRow.holds Try.pinned (OpenSpec.ofChange Rows.closureShutsSpec) :=
  OpenClaim.holds_of_wide 10 Try.f10 rfl rfl rfl rfl rfl rfl rfl ⟨rfl, rfl, rfl, rfl, rfl⟩ rfl rfl rfl rfl rfl (by kernel_rfl) Try.func10 (by kernel_rfl)
    (of_decide_eq_true (by kernel_rfl)) (by unfold Func.isWrapper; first | (rw [if_pos (by decide +kernel)]; kernel_rfl) | (rw [if_neg (by decide +kernel)]; exact ⟨rfl, rfl⟩))
    (fun os started H enc _ => lifted os started H enc)
theorem proved : Rows.ClosureShutsSaid := over
#print axioms proved
end Go.Proofs.Ytgkjhnilgmokiaa.closureShuts
