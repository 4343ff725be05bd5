/-
  Of HandleLeast: the table's contracts (Ha) over the drops that the argument tells; the free slots are put again in order.
-/
import Derived.Test.YtgkjhnilgmokiaaRows
import Derived.WalkKit
import Derived.WalkSpells
import Derived.WalkLawsBesides
import Derived.WalkMore
import Derived.ProofKit
import Derived.OpenShut
import Derived.ShutString
import Derived.ChangeOld
import Derived.Below
import Derived.SizedLaws
import Derived.Lib.Hide
import Derived.Test.YtgkjhnilgmokiaaOpen
import Derived.Test.YtgkjhnilgmokiaaH
namespace Go.Proofs.Ytgkjhnilgmokiaa.handleLeast
open Go.RowKit Go.ChangeShapes Go.WideShapes Go.ChangeAt Go.Proofs.YtgkjhnilgmokiaaW.PrintWords
set_option linter.unusedVariables false
open Ha
theorem n62 (m : Int) : ∃ n : Nat, 2 ≤ n ∧ n ≤ 61 ∧ wrap64 (wrap64 ((IntKind.u64.wrap m).tmod 60) + 2) = (n : Int) := by
  have h0 : 0 ≤ m % 18446744073709551616 := Int.emod_nonneg _ (by omega)
  rw [IntKind.wrap_u64, Int.tmod_eq_emod_of_nonneg h0]
  refine ⟨(m % 18446744073709551616 % 60 + 2).toNat, by omega, by omega, ?_⟩
  unfold wrap64
  omega
theorem modn (m : Int) (n : Nat) (h2 : 2 ≤ n) (h : n ≤ 61) : ∃ d : Nat, d < n ∧ wrap64 ((IntKind.u64.wrap m).tmod (n : Int)) = (d : Int) := by
  have h0 : 0 ≤ m % 18446744073709551616 := Int.emod_nonneg _ (by omega)
  rw [IntKind.wrap_u64, Int.tmod_eq_emod_of_nonneg h0]
  have h1 := Int.emod_nonneg (m % 18446744073709551616) (show (n : Int) ≠ 0 by omega)
  have h3 := Int.emod_lt_of_pos (m % 18446744073709551616) (show (0 : Int) < n by omega)
  refine ⟨(m % 18446744073709551616 % n).toNat, by omega, ?_⟩
  unfold wrap64
  omega
theorem C_int {k : IntKind} {w : World} {A : Option Addr} {n : Nat} {xs : List Int} (h : Kd.C (Kd.int k) w A n xs) (i : Nat) (hi : i < n) : ∃ ad, A = some ad ∧ w.cell? (ad.add i) = some (.int k (xs.getD i 0)) := by
  obtain ⟨ad, c, e, _, hK, hc⟩ := Kd.C_get h (0 : Int) i (by omega) (by omega)
  obtain rfl : c = [.int k (xs.getD i 0)] := hK
  refine ⟨ad, e, ?_⟩
  have := hc 0 _ rfl
  rw [Nat.add_zero, Int.toNat_natCast] at this
  have hs : (Kd.int k).sz = 1 := rfl
  rw [hs, Nat.mul_one] at this
  exact this
def U (n k : Nat) (f : Nat → Bool) (i : Nat) : Bool := decide (i < n) && (!f i || decide (i < k))
def Ag (f : Nat → Bool) (i : Nat) : Int := if f i then 1 else 0
def frow (n : Nat) (f : Nat → Bool) : Array Value := ((List.range n).map fun i => Value.int .i64 (Ag f i)).toArray
def Fr (w : World) (G n : Nat) (f : Nat → Bool) : Prop := w.heap[G]? = some (.cells (frow n f) 3 (0, 0))
theorem Fr.cell {w : World} {G n : Nat} {f : Nat → Bool} (h : Fr w G n f) (k : Nat) (hk : k < n) : w.cell? ⟨G, k, none⟩ = some (.int .i64 (Ag f k)) := by
  have := cell_of_row w G k _ 3 (0, 0) h
  rw [this]
  simp [frow, hk]
theorem Fr.frozen {w : World} {G n : Nat} {f : Nat → Bool} (h : Fr w G n f) (k : Nat) : w.frozen? ⟨G, k, none⟩ = false := by
  unfold Fr at h
  simp [World.frozen?, h]
theorem Fr.set {w : World} {G n : Nat} {f : Nat → Bool} (h : Fr w G n f) (k : Nat) : Fr (w.setCell ⟨G, k, none⟩ (.int .i64 1)) G n (upd f k true) := by
  unfold Fr at *
  simp only [World.setCell, Array.getElem?_modify, h, if_pos, Option.map_some]
  have : (frow n f).setIfInBounds k (.int .i64 1) = frow n (upd f k true) := by
    unfold frow
    refine Array.ext (by simp) fun j h1 h2 => ?_
    have hj : j < n := by simpa using h2
    rw [Array.getElem_setIfInBounds (by simpa using hj)]
    simp only [List.getElem_toArray, List.getElem_map, List.getElem_range]
    by_cases hjk : k = j
    · subst hjk; simp [Ag, upd]
    · have : ¬ j = k := fun e => hjk e.symm
      rw [if_neg hjk]; simp [Ag, upd, this]
  rw [← this]
  rfl
theorem Fr.lt {w : World} {G n : Nat} {f : Nat → Bool} (h : Fr w G n f) : G < w.heap.size := (Array.getElem?_eq_some_iff.1 h).1
theorem Fr.keep {w w' : World} {G n : Nat} {f : Nat → Bool} {g : Nat} (h : Fr w G n f) (hg : w.grownBy w' (some g)) (hne : G ≠ g) : Fr w' G n f :=
  (hg.block G h.lt (fun e => hne (by injection e))).trans h
theorem Tab.far {w : World} {g : Nat} {o : Nat → Int} {u : Nat → Bool} {a : Nat → Int} (h : Tab w g o u a) (G k : Nat) (v : Value) (hne : g ≠ G) : Tab (w.setCell ⟨G, k, none⟩ v) g o u a :=
  (Below.heap_setCell w ⟨G, k, none⟩ v g (fun e => hne e)).trans h
theorem tab_lt {w : World} {g : Nat} {o : Nat → Int} {u : Nat → Bool} {a : Nat → Int} (h : Tab w g o u a) : g < w.heap.size := (Array.getElem?_eq_some_iff.1 h).1
theorem made_row (n : Nat) : madeCells (Value.int .i64 0).cells n = frow n (fun _ => false) := by
  unfold madeCells frow
  refine Array.ext (by simp) fun j h1 h2 => ?_
  simp [Ag, Value.cells, Nat.mod_one]
theorem make_row (n : Nat) (h : n ≤ 61) (w : World) : (Instr.makeSlice 27 (.int .i64 (n : Int)) (.int .i64 (n : Int))).run Try.prog w = .ok (.slice (some ⟨w.heap.size, 0, none⟩) n n) (w.alloc (.cells (frow n fun _ => false) 3)) := by
  obtain ⟨i, hi, hz, hs, hb⟩ := info_parts info3
  have := run_make w 27 3 i (.int .i64 0) Try.underlying27 hi hz .i64 .i64 n n (by omega) (by omega) (by rw [hb]; omega) (by omega)
  rw [hs, Nat.mul_one, Int.toNat_natCast, made_row] at this
  exact this
theorem slot_of (d : Nat) (q : Nat) (h : d < 64) (hq : q ≤ 1) : IsSlot ((d : Int) + 64 * q) d q := by
  refine ⟨by omega, by omega, by omega, ?_⟩
  rw [Int.tdiv_eq_ediv_of_nonneg (by omega)]
  unfold wrap64
  omega
theorem slot_small (d : Nat) (h : d < 64) : IsSlot (d : Int) d 0 := by
  have := slot_of d 0 h (by omega)
  simpa using this
theorem own' {w : World} : ∀ (k : Nat), some w.heap.size = some k → w.heap.size ≤ k := fun k hk => by injection hk with hk; omega
theorem u_drop {n d : Nat} {f : Nat → Bool} : upd (U n 0 f) d false = U n 0 (upd f d true) := by
  funext i; unfold upd U
  by_cases h : i = d
  · subst h; simp
  · simp only [if_neg h]
theorem a_drop {d : Nat} {f : Nat → Bool} (h : f d = false) : upd (Ag f) d (Ag f d + 1) = Ag (upd f d true) := by
  funext i; unfold upd Ag
  by_cases h1 : i = d
  · subst h1; simp [h]
  · simp only [if_neg h1]
theorem u_next {n k : Nat} {f : Nat → Bool} (h : k < n) : upd (U n k f) k true = U n (k + 1) f := by
  funext i; unfold upd U
  by_cases h1 : i = k
  · subst h1; simp [h]
  · rw [if_neg h1]
    by_cases h2 : i < k
    · rw [decide_eq_true h2, decide_eq_true (show i < k + 1 by omega)]
    · rw [decide_eq_false h2, decide_eq_false (show ¬ i < k + 1 by omega)]
theorem u_skip {n k : Nat} {f : Nat → Bool} (h : f k = false) : U n k f = U n (k + 1) f := by
  funext i; unfold U
  by_cases h1 : i = k
  · subst h1; simp [h]
  · by_cases h2 : i < k
    · rw [decide_eq_true h2, decide_eq_true (show i < k + 1 by omega)]
    · rw [decide_eq_false h2, decide_eq_false (show ¬ i < k + 1 by omega)]
theorem u_start (k : Nat) : upd (fun i => decide (i < k)) k true = fun i => decide (i < k + 1) := by
  funext i
  by_cases h : i = k
  · subst h; simp [upd]
  · simp only [upd, if_neg h]
    exact decide_eq_decide.2 (by omega)
theorem u_zero (n : Nat) : (fun i => decide (i < n)) = U n 0 (fun _ => false) := by
  funext i; simp [U]
def S1 (w wr : World) (k : Nat) : Prop := (∃ o, Tab wr w.heap.size o (fun i => decide (i < k)) (fun _ => 0)) ∧ Below w.heap.size w wr
def S2 (w wr : World) (G n k : Nat) (f : Nat → Bool) : Prop := (∃ o, Tab wr w.heap.size o (U n k f) (Ag f)) ∧ Fr wr G n f ∧ Below w.heap.size w wr
theorem walk (w : World) (a0 : Int) (w0 : (Lit.int .i64 a0).wf = true) (A1 : Option Addr) (c1 : Nat) (x1 : List Int) (hc1 : x1.length ≤ c1) (hr1 : Kd.C (Kd.int .i64) w A1 x1.length x1) (ok1 : x1.length ≤ maxLen ∧ ∀ y ∈ x1, (Lit.int .i64 y).wf = true) :
    Calls Try.prog 6 #[.int .i64 a0, .slice A1 x1.length c1] w fun e w' => e = .returned (.bool true) ∧ Below w.heap.size w w' := by
  obtain ⟨n, hn1, hn2, en⟩ := n62 a0
  have EN := Lib.hid en
  have HR := Lib.hid hr1
  clear en w0 hr1 ok1
  go_enter Try.func6, Try.ntmps6
  go_wp2_with fail
  refine (new_any _).mono ?_
  rintro e w' ⟨rfl, rfl⟩
  have h0 : Tab (w.alloc (.cells tab0 76)) w.heap.size (fun _ => 0) (fun _ => false) (fun _ => 0) := heap_alloc_new w _
  have hb0 : Below w.heap.size w (w.alloc (.cells tab0 76)) := (Below.refl _ _).alloc (Nat.le_refl _) _
  have HT := Lib.hid h0
  clear h0
  go_wp2
  rw [EN.out]
  go_loopw [22] (fun i wr => ∃ k : Nat, k ≤ n ∧ i = .int .i64 (k : Int) ∧ S1 w wr k) (fun i _ => n - (intOf i).toNat)
  case atStart => exact ⟨0, by omega, rfl, ⟨_, HT.out⟩, hb0⟩
  case round =>
    obtain ⟨k, hk, rfl, ⟨⟨o, hT⟩, hb⟩⟩ := hrel
    by_cases hlt : k < n
    · have HT' := Lib.hid hT
      clear hT HT
      go_wp2_with fail
      refine (put_free _ _ _ _ (k : Int) _ HT'.out k (by omega) (decide_eq_false (by omega)) (fun j hj => decide_eq_true hj) (by omega) (by omega)).mono ?_
      rintro e w1 ⟨rfl, h1, g1⟩
      rw [u_start] at h1
      have hb1 := hb.grown g1 hb.size own'
      clear g1
      have H1 := Lib.hid h1
      clear h1
      go_wp2
      go_roundw
      case rel => exact ⟨k + 1, by omega, by go_num, ⟨_, H1.out⟩, hb1⟩
      case measure => simp [intOf]; omega
    · obtain rfl : k = n := by omega
      have HT' := Lib.hid hT
      clear hT HT hlt
      have mk := make_row k hn2
      have hF : Fr (wr.alloc (.cells (frow k fun _ => false) 3)) wr.heap.size k (fun _ => false) := heap_alloc_new wr _
      have hG : w.heap.size < wr.heap.size := tab_lt HT'.out
      have hb2 := hb.alloc hb.size (.cells (frow k fun _ => false) 3)
      have hT2 : ∃ o, Tab (wr.alloc (.cells (frow k fun _ => false) 3)) w.heap.size o (U k 0 fun _ => false) (Ag fun _ => false) := by
        refine ⟨o, ?_⟩
        rw [← u_zero]
        exact (heap_alloc_old wr _ hG).trans HT'.out
      have S0 := Lib.hid (show S2 w (wr.alloc (.cells (frow k fun _ => false) 3)) wr.heap.size k 0 (fun _ => false) from ⟨hT2, hF, hb2⟩)
      clear hF hb2 hT2
      go_wp2
      clear mk HT'
      generalize wr.heap.size = G at hG S0 ⊢
      go_loopw [33] (fun i wr => ∃ j : Nat, j ≤ x1.length ∧ i = .int .i64 (j : Int) ∧ ∃ f : Nat → Bool, S2 w wr G k 0 f ∧ ∀ m, f m = true → m < k) (fun i _ => x1.length - (intOf i).toNat)
      case atStart => exact ⟨0, by omega, rfl, _, S0.out, fun m hm => by cases hm⟩
      case round =>
        obtain ⟨j, hj, rfl, f, ⟨⟨o, hT⟩, hF, hb⟩, hf⟩ := hrel
        by_cases hlt : j < x1.length ∧ j < 40
        · obtain ⟨ad, rfl, hc⟩ := C_int (Kd.C_below HR.out hb) j hlt.1
          obtain ⟨d, hd, ed⟩ := modn (x1.getD j 0) k hn1 hn2
          generalize x1.getD j 0 = xj at hc ed
          have HT := Lib.hid hT
          have HF := Lib.hid hF
          have hcf := hF.cell d hd
          have hff := hF.frozen d
          have hl1 := hlt.1
          have hl2 := hlt.2
          clear hT hF
          by_cases hfd : f d = true
          · have ea : Ag f d = 1 := by simp [Ag, hfd]
            rw [ea] at hcf
            go_wp2
            go_roundw
            case rel => exact ⟨j + 1, by omega, by go_num, f, ⟨⟨o, HT.out⟩, HF.out, hb⟩, hf⟩
            case measure => simp [intOf]; omega
          · have hfd' : f d = false := by simpa using hfd
            have ea : Ag f d = 0 := by simp [Ag, hfd']
            rw [ea] at hcf
            go_wp2_with fail
            refine (drop_yes _ _ _ _ (d : Int) d _ HT.out (by rw [ea]; exact slot_small d (by omega)) (by simp [U, hfd', hd]) (by rw [ea]; decide) (by rw [ea]; decide)).mono ?_
            rintro e w1 ⟨rfl, h1, g1⟩
            rw [u_drop, a_drop hfd'] at h1
            have hF1 := HF.out.keep g1 (by omega)
            have hb1 := hb.grown g1 hb.size own'
            have H1 := Lib.hid (Tab.far h1 G d (.int .i64 1) (by omega))
            have HF1 := Lib.hid (hF1.set d)
            have hb2 := hb1.setCell (p := ⟨G, d, none⟩) (Nat.le_of_lt hG) (.int .i64 1)
            have hff1 := hF1.frozen d
            have hcf1 := hF1.cell d hd
            clear h1 g1 hF1 HT HF
            go_wp2
            go_roundw
            case rel =>
              refine ⟨j + 1, by omega, by go_num, upd f d true, ⟨⟨_, H1.out⟩, HF1.out, hb2⟩, fun m hm => ?_⟩
              unfold upd at hm
              by_cases hmd : m = d
              · omega
              · rw [if_neg hmd] at hm; exact hf m hm
            case measure => simp [intOf]; omega
        · have hx : x1.length ≤ j ∨ (j < x1.length ∧ 40 ≤ j) := by omega
          have HS := Lib.hid (show S2 w wr G k 0 f from ⟨⟨o, hT⟩, hF, hb⟩)
          have hbb := hb
          clear hT hF hlt S0
          rcases hx with hx | ⟨hx1, hx2⟩
          obtain rfl : j = x1.length := by omega
          rotate_left
          obtain ⟨ad, rfl, hc⟩ := C_int (Kd.C_below HR.out hbb) j hx1
          have c40 : decide ((40 : Int) ≤ (j : Int)) = true := decide_eq_true (by omega)
          all_goals
            clear hbb hb HR
            go_wp2
            go_loopw [60] (fun i wr => ∃ j : Nat, j ≤ k ∧ i = .int .i64 (j : Int) ∧ S2 w wr G k j f) (fun i _ => k - (intOf i).toNat)
            case atStart => exact ⟨0, by omega, rfl, HS.out⟩
            case round =>
              obtain ⟨q, hq, rfl, ⟨o, hT⟩, hF, hb⟩ := hrel
              have HT := Lib.hid hT
              have HF := Lib.hid hF
              clear hT
              by_cases hqk : q < k
              · have hcf := hF.cell q hqk
                clear hF
                by_cases hfq : f q = true
                · have ea : Ag f q = 1 := by simp [Ag, hfq]
                  rw [ea] at hcf
                  go_wp2_with fail
                  refine (put_free _ _ _ _ 9 _ HT.out q (by omega) (by simp [U, hfq]) (fun m hm => by simp [U, hm, show m < k by omega]) (by rw [ea]; decide) (by rw [ea]; decide)).mono ?_
                  rintro e w1 ⟨he, h1, g1⟩
                  rw [ea] at he
                  subst he
                  rw [u_next hqk] at h1
                  have hF1 := Lib.hid (HF.out.keep g1 (by omega))
                  have hb1 := hb.grown g1 hb.size own'
                  have H1 := Lib.hid h1
                  have cc : ((q : Int) + 64 * 1 != (q : Int) + 64) = false := by rw [bne_eq_false_iff_eq]; omega
                  clear h1 g1 HT HF
                  go_wp2
                  go_roundw
                  case rel => exact ⟨q + 1, by omega, by go_num, ⟨_, H1.out⟩, hF1.out, hb1⟩
                  case measure => simp [intOf]; omega
                · have hfq' : f q = false := by simpa using hfq
                  have ea : Ag f q = 0 := by simp [Ag, hfq']
                  rw [ea] at hcf
                  have H1 := Lib.hid HT.out
                  rw [u_skip hfq'] at H1
                  clear HT
                  go_wp2
                  go_roundw
                  case rel => exact ⟨q + 1, by omega, by go_num, ⟨_, H1.out⟩, HF.out, hb⟩
                  case measure => simp [intOf]; omega
              · obtain rfl : q = k := by omega
                have ea : Ag f q = 0 := by
                  unfold Ag
                  rw [if_neg]
                  intro h
                  have := hf q h
                  omega
                clear hF
                go_wp2_with fail
                refine (put_free _ _ _ _ 9 _ HT.out q (by omega) (by simp [U]) (fun m hm => by simp [U, hm]) (by rw [ea]; decide) (by rw [ea]; decide)).mono ?_
                rintro e w1 ⟨he, h1, g1⟩
                rw [ea] at he
                subst he
                have hb1 := hb.grown g1 hb.size own'
                have cc : ((q : Int) + 64 * 0 == (q : Int)) = true := by rw [beq_iff_eq]; omega
                have c64 : ((q : Int) == 64) = false := by rw [beq_eq_false_iff_ne]; omega
                clear h1 g1 HT HF
                go_wp2_with fail
                refine (awake_any _).mono ?_
                rintro e w5 ⟨rfl, hb6⟩
                have hb7 := hb1.trans (hb6.mono hb1.size)
                go_wp2
                go_ret
                exact ⟨rfl, hb7⟩

theorem own : ownKnob Try.prog.godebug = none := by kernel_rfl
theorem laidOut : laidOutB Try.prog = true := by kernel_rfl
set_option maxRecDepth 100000 in
theorem lifted (os : Os) (started : os.Started) (H : Type) (enc : TypeId × Value → H) :
    ReturnsInHanded {} Try.checked os 6 .any (Rows.handleLeastSpec.pre6 enc Try.prog Try.f6 Rows.handleLeastRow.domain false) (Rows.handleLeastSpec.post enc Try.prog Try.f6 false true false false) := by
  refine returnsInHanded_of_change (C := Try.checked) own started (by kernel_rfl) Try.func6
    (ChangeSpec.witness6 (enc := enc) (C := Try.checked) false ⟨#[], #[.int .i64 0, .slice none 0 0], []⟩ 8 (by kernel_rfl) (by kernel_rfl) (by kernel_rfl) (by kernel_rfl)) ?_
  intro W base args ds gs before hval0 hW hcnd _
  have hval : ∀ (j : Nat) t v, Try.f6.params[j]? = some t → args[j]? = some v → Value.okWide Try.prog W .any base t v := hval0
  have hW' := hW
  obtain ⟨p, q, hA0, hV, rfl, hfz, hnd⟩ := hW
  have hA : DataW.TrodAll enc Try.prog W 0 (fun _ => true) true Try.f6.params.toList args.toList ds p := hA0
  rw [Try.params6] at hA hval
  obtain ⟨v0, vs0, d0, ds0, p0, q0, hargs, rfl, rfl, h0, r0⟩ := trodAll_cons hA
  obtain ⟨v1, vs1, d1, ds1, p1, q1, rfl, rfl, rfl, h1, r1⟩ := trodAll_cons r0
  obtain ⟨rfl, rfl, rfl⟩ := trodAll_nil r1
  obtain rfl : args = #[v0, v1] := by cases args; simp_all
  obtain ⟨rfl, rfl⟩ := trodVars_none hV
  obtain ⟨a0, rfl, rfl, rfl, w0⟩ := open_int Try.underlying3 (hval 0 3 v0 rfl rfl) h0
  obtain ⟨a1, len1, cap1, rfl⟩ := okWide_slice Try.underlying27 (hval 1 27 v1 rfl rfl)
  have k1 := h1
  have lt1 : ∀ x ∈ p1, x.block < W.heap.size := by obtain ⟨m, hm⟩ := k1; exact DataW.trod_lt m _ _ _ hm
  obtain ⟨fuel1, hf1⟩ := h1
  obtain ⟨x1, ⟨A1, c1, e1, hc1, hr1⟩, ok1⟩ := Op.opens_slice (n := 3) Try.underlying27 (by kernel_rfl) (Op.opens_int Try.underlying3) H enc W 0 _ _ _ _ _ hf1
  obtain ⟨rfl, rfl, rfl⟩ : a1 = A1 ∧ len1 = x1.length ∧ cap1 = c1 := by simpa [Value.cells] using e1
  clear hA0 hval0
  refine (walk W a0 w0 _ _ x1 hc1 hr1 ok1).mono fun e W' ⟨he, bel⟩ => ?_
  subst he
  exact ⟨_, rfl, _, _, _, [], _, [], hW', trodAll_mk1 (shut_bool Try.underlying4 _), (trodAll_cons_mk (shut_int Try.underlying3 w0) (trodAll_cons_mk (Below.trod laidOut (by kernel_rfl) (of_decide_eq_true (by kernel_rfl)) k1 bel lt1) trodAll_mk0)), rfl, bel.frame _, fun h => by cases h⟩
theorem over : Rows.handleLeastRow.holds Try.pinned (OpenSpec.ofChange Rows.handleLeastSpec) :=
  OpenClaim.holds_of_wide 6 Try.f6 rfl rfl rfl rfl rfl rfl rfl ⟨rfl, rfl, rfl, rfl, rfl⟩ rfl rfl rfl rfl rfl (by kernel_rfl) Try.func6 (by kernel_rfl)
    (of_decide_eq_true (by kernel_rfl)) (by unfold Func.isWrapper; first | (rw [if_pos (by decide +kernel)]; kernel_rfl) | (rw [if_neg (by decide +kernel)]; exact ⟨rfl, rfl⟩))
    (fun os started H enc _ => lifted os started H enc)
theorem proved : Rows.HandleLeastSaid := over
#print axioms proved
end Go.Proofs.Ytgkjhnilgmokiaa.handleLeast
