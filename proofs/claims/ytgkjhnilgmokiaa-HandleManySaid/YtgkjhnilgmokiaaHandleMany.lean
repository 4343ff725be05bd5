/-
  Proved: for every input the call of HandleMany returns true and each argument reads as before. No condition.
-/
import Derived.Test.YtgkjhnilgmokiaaRows
import Derived.WalkKit
import Derived.ProofKit
import Derived.OpenShut
import Derived.Test.YtgkjhnilgmokiaaH
import Derived.Test.YtgkjhnilgmokiaaPost
namespace Go.Proofs.Ytgkjhnilgmokiaa.handleMany
open Go.ChangeShapes Go.WideShapes Go.ChangeAt Go.RowKit
set_option linter.unusedVariables false

theorem own : ownKnob Try.prog.godebug = none := by kernel_rfl

open Ha
def oM (k : Nat) (i : Nat) : Int := if i < k then (i : Int) else 0
def uM (k : Nat) (i : Nat) : Bool := decide (i < k)
theorem oM_next (k : Nat) : upd (oM k) k (k : Int) = oM (k + 1) := by
  funext i; unfold upd oM
  by_cases h : i = k
  · subst h; simp
  · by_cases h2 : i < k
    · rw [if_neg h, if_pos h2, if_pos (by omega)]
    · rw [if_neg h, if_neg h2, if_neg (by omega)]
theorem uM_next (k : Nat) : upd (uM k) k true = uM (k + 1) := by
  funext i; unfold upd uM
  by_cases h : i = k
  · subst h; simp
  · rw [if_neg h]
    by_cases h2 : i < k
    · rw [decide_eq_true h2, decide_eq_true (by omega)]
    · rw [decide_eq_false h2, decide_eq_false (by omega)]
theorem n8 (m : Int) : ∃ n : Nat, 60 ≤ n ∧ n ≤ 67 ∧ wrap64 (60 + wrap64 ((IntKind.u64.wrap m).tmod 8)) = (n : Int) := by
  have h0 : 0 ≤ m % 18446744073709551616 := Int.emod_nonneg _ (by omega)
  rw [IntKind.wrap_u64, Int.tmod_eq_emod_of_nonneg h0]
  refine ⟨(60 + m % 18446744073709551616 % 8).toNat, by omega, by omega, ?_⟩
  unfold wrap64
  omega
theorem n60 (m : Int) : ∃ n : Nat, n < 60 ∧ wrap64 ((IntKind.u64.wrap m).tmod 60) = (n : Int) := by
  have h0 : 0 ≤ m % 18446744073709551616 := Int.emod_nonneg _ (by omega)
  rw [IntKind.wrap_u64, Int.tmod_eq_emod_of_nonneg h0]
  refine ⟨(m % 18446744073709551616 % 60).toNat, by omega, ?_⟩
  unfold wrap64
  omega
theorem slot_small (d : Nat) (h : d < 60) : IsSlot (d : Int) d 0 := by
  refine ⟨by omega, by omega, by omega, ?_⟩
  rw [Int.tdiv_eq_ediv_of_nonneg (by omega)]
  unfold wrap64
  omega
theorem used_count (k : Nat) (o : Nat → Int) (hk : k ≤ 64) : (allL o (uM k) 64).length = k := by
  unfold allL uM
  rw [List.length_map]
  have : ∀ n, ((List.range n).filter fun i => decide (i < k)).length = min n k := by
    intro n
    induction n with
    | zero => simp
    | succ n ih =>
      rw [List.range_succ, List.filter_append, List.length_append, ih]
      by_cases h : n < k
      · simp [h]; omega
      · simp [h]; omega
  rw [this]; omega
theorem uM_back (k d : Nat) (h : d < k) : upd (upd (uM k) d false) d true = uM k := by
  funext i; unfold upd uM
  by_cases h1 : i = d
  · subst h1; simp [h]
  · rw [if_neg h1, if_neg h1]
def AM (d : Nat) : Nat → Int := upd (fun _ => 0) d ((fun _ => (0 : Int)) d + 1)
theorem AM_at (d : Nat) : AM d d = 1 := by simp [AM, upd]
def St (w wr : World) (k : Nat) : Prop := Tab wr w.heap.size (oM (min k 64)) (uM (min k 64)) (fun _ => 0) ∧ Below w.heap.size w wr
theorem own' {w : World} : ∀ (k : Nat), some w.heap.size = some k → w.heap.size ≤ k := fun k hk => by injection hk with hk; omega

theorem walk (a0 : Int) (a1 : Int) (w0 : (Lit.int .i64 a0).wf = true) (w1 : (Lit.int .i64 a1).wf = true) (w : World) :
    Calls Try.prog 8 #[.int .i64 a0, .int .i64 a1] w fun e w' => e = .returned (.bool true) ∧ Below w.heap.size w w' := by
  obtain ⟨n, hn1, hn2, en⟩ := n8 a0
  have EN := Lib.hid en
  clear en w0 w1
  go_enter Try.func8, Try.ntmps8
  go_wp2_with fail
  refine (new_any _).mono ?_
  rintro e w' ⟨rfl, rfl⟩
  have h0 : Tab (w.alloc (.cells tab0 76)) w.heap.size (fun _ => 0) (fun _ => false) (fun _ => 0) := heap_alloc_new w _
  have hb0 : Below w.heap.size w (w.alloc (.cells tab0 76)) := (Below.refl _ _).alloc (Nat.le_refl _) _
  have HT := Lib.hid h0
  clear h0
  go_wp2
  rw [EN.out]
  go_loopw [18] (fun i wr => ∃ k : Nat, k ≤ n ∧ i = .int .i64 (k : Int) ∧ St w wr k) (fun i _ => n - (intOf i).toNat)
  case atStart =>
    refine ⟨0, by omega, rfl, ?_, hb0⟩
    have e1 : oM (min 0 64) = fun _ => 0 := rfl
    have e2 : uM (min 0 64) = fun _ => false := rfl
    rw [e1, e2]; exact HT.out
  case round =>
    obtain ⟨k, hk, rfl, ⟨hT, hb⟩⟩ := hrel
    by_cases hlt : k < n
    · by_cases h64 : k < 64
      · have em : min k 64 = k := by omega
        have em2 : min (k + 1) 64 = k + 1 := by omega
        rw [em] at hT
        have HT' := Lib.hid hT
        clear hT
        have c1 : ((k : Int) != (k : Int)) = false := by simp
        go_wp2_with fail
        refine (put_free _ _ _ _ (k : Int) _ HT'.out k h64 (decide_eq_false (by omega)) (fun j hj => decide_eq_true hj) (by omega) (by omega)).mono ?_
        rintro e w1 ⟨rfl, h1, g1⟩
        rw [oM_next, uM_next] at h1
        have hb1 := hb.grown g1 hb.size own'
        clear g1
        have H1 := Lib.hid h1
        have EM := Lib.hid em2
        clear h1 em em2
        go_wp2
        go_roundw
        case rel => exact ⟨k + 1, by omega, by go_num, by rw [EM.out]; exact H1.out, hb1⟩
        case measure => simp [intOf]; omega
      · have em : min k 64 = 64 := by omega
        have em2 : min (k + 1) 64 = 64 := by omega
        rw [em] at hT
        have HT' := Lib.hid hT
        clear hT
        go_wp2_with fail
        refine (put_full _ _ _ _ (k : Int) _ HT'.out (fun j hj => decide_eq_true hj)).mono ?_
        rintro e w1 ⟨rfl, rfl⟩
        have EM := Lib.hid em2
        clear em em2
        go_wp2
        go_roundw
        case rel => exact ⟨k + 1, by omega, by go_num, by rw [EM.out]; exact HT'.out, hb⟩
        case measure => simp [intOf]; omega
    · obtain rfl : k = n := by omega
      obtain ⟨d, hd, ed⟩ := n60 a1
      have hkk : d < min k 64 := by omega
      have hT' := Lib.hid hT
      have ED := Lib.hid ed
      clear hT ed
      go_wp2_with fail
      rw [ED.out]
      refine (drop_yes _ _ _ _ (d : Int) d _ hT'.out (slot_small d hd) (decide_eq_true hkk) (by decide) (by decide)).mono ?_
      rintro e w2 ⟨rfl, h2, g2⟩
      have hb2 := hb.grown g2 hb.size own'
      have H2 := Lib.hid h2
      clear h2 g2
      go_wp2_with fail
      have H2' : Tab w2 w.heap.size (upd (oM (min k 64)) d 0) (upd (uM (min k 64)) d false) (AM d) := H2.out
      refine (put_free _ _ _ _ 99 _ H2' d (by omega) (by simp [upd]) (fun j hj => ?_) (by rw [AM_at]; decide) (by rw [AM_at]; decide)).mono ?_
      · unfold upd uM
        rw [if_neg (by omega)]
        exact decide_eq_true (by omega)
      rintro e w3 ⟨he, h3, g3⟩
      rw [AM_at] at he
      subst he
      rw [uM_back _ _ hkk] at h3
      have hb3 := hb2.grown g3 hb2.size own'
      have H3 := Lib.hid h3
      clear H2 H2' h3 g3
      have cc : ((d : Int) + 64 * 1 == (d : Int) + 64) = true := by rw [beq_iff_eq]; omega
      have cm : ((min k 64 : Nat) : Int) = if (k : Int) ≤ 64 then (k : Int) else 64 := by split <;> omega
      go_wp2_with fail
      refine (len_any _ _ _ _ _ H3.out).mono ?_
      rw [used_count _ _ (by omega)]
      rintro e w4 ⟨rfl, hb4⟩
      have hb5 := hb3.trans (hb4.mono hb3.size)
      go_wp2_with fail
      all_goals
        refine (awake_any _).mono ?_
        rintro e w5 ⟨rfl, hb6⟩
        have hb7 := hb5.trans (hb6.mono hb5.size)
        go_wp2
        go_ret
        exact ⟨rfl, hb7⟩

set_option maxRecDepth 100000 in
theorem lifted (os : Os) (started : os.Started) (H : Type) (enc : TypeId × Value → H) :
    ReturnsInHanded {} Try.checked os 8 .any (Rows.handleManySpec.pre6 enc Try.prog Try.f8 Rows.handleManyRow.domain false) (Rows.handleManySpec.post enc Try.prog Try.f8 false true false false) := by
  refine returnsInHanded_of_change (C := Try.checked) own started (by kernel_rfl) Try.func8
    (ChangeSpec.witness6 (enc := enc) (C := Try.checked) false ⟨#[], #[.int .i64 0, .int .i64 0], []⟩ 8 (by kernel_rfl) (by kernel_rfl) (by kernel_rfl) (by kernel_rfl)) ?_
  intro W base args ds gs before hval0 hW hcnd _
  have hval : ∀ (j : Nat) t v, Try.f8.params[j]? = some t → args[j]? = some v → Value.okWide Try.prog W .any base t v := hval0
  have hW' := hW
  obtain ⟨p, q, hA0, hV, rfl, hfz, hnd⟩ := hW
  have hA : DataW.TrodAll enc Try.prog W 0 (fun _ => true) true Try.f8.params.toList args.toList ds p := hA0
  rw [Try.params8] at hA hval
  obtain ⟨v0, vs0, d0, ds0, p0, q0, hargs, rfl, rfl, h0, r0⟩ := trodAll_cons hA
  obtain ⟨v1, vs1, d1, ds1, p1, q1, rfl, rfl, rfl, h1, r1⟩ := trodAll_cons r0
  obtain ⟨rfl, rfl, rfl⟩ := trodAll_nil r1
  obtain rfl : args = #[v0, v1] := by cases args; simp_all
  obtain ⟨rfl, rfl⟩ := trodVars_none hV
  obtain ⟨a0, rfl, rfl, rfl, w0⟩ := open_int Try.underlying3 (hval 0 3 v0 rfl rfl) h0
  obtain ⟨a1, rfl, rfl, rfl, w1⟩ := open_int Try.underlying3 (hval 1 3 v1 rfl rfl) h1
  clear hA0 hval0
  simp only [List.append_nil] at hW'
  refine (walk a0 a1 w0 w1 W).mono fun e W' ⟨he, hg⟩ => ?_
  subst he
  exact ⟨_, rfl, post_of_below (pa := []) (pv := []) hW' (fun _ _ _ => (trodAll_cons_mk (shut_bool Try.underlying4 _) trodAll_mk0)) (fun sp _ => (trodAll_cons_mk (shut_int Try.underlying3 w0) (trodAll_cons_mk (shut_int Try.underlying3 w1) trodAll_mk0))) (fun _ _ => rfl) rfl
    hg (ok_one (by kernel_rfl) rfl (okWide_bool_mk Try.underlying4 _))⟩

theorem over : Rows.handleManyRow.holds Try.pinned (OpenSpec.ofChange Rows.handleManySpec) :=
  OpenClaim.holds_of_wide 8 Try.f8 rfl rfl rfl rfl rfl rfl rfl ⟨rfl, rfl, rfl, rfl, rfl⟩ rfl rfl rfl rfl rfl (by kernel_rfl) Try.func8 (by kernel_rfl)
    (of_decide_eq_true (by kernel_rfl)) (by unfold Func.isWrapper; first | (rw [if_pos (by decide +kernel)]; kernel_rfl) | (rw [if_neg (by decide +kernel)]; exact ⟨rfl, rfl⟩))
    (fun os started H enc _ => lifted os started H enc)

theorem proved : Rows.HandleManySaid :=
  over
#print axioms proved
end Go.Proofs.Ytgkjhnilgmokiaa.handleMany
