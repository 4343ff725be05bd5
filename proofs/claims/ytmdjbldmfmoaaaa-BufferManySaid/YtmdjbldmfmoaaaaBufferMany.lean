/-
  A buffer takes as many writes as it may hold and refuses one more; one of a place that is there still goes; for every number.
-/
import Derived.Test.YtmdjbldmfmoaaaaRows
import Derived.WalkKit
import Derived.WalkSpells
import Derived.WalkLawsBesides
import Derived.WalkMore
import Derived.ProofKit
import Derived.OpenShut
import Derived.ShutString
import Derived.ChangeOld
import Derived.Below
import Derived.SizedLaws
import Derived.Lib.Hide
import Derived.Test.YtmdjbldmfmoaaaaOpen
import Derived.Test.YtmdjbldmfmoaaaaBw
namespace Go.Proofs.Ytmdjbldmfmoaaaa.bufferMany
open Go.RowKit Go.ChangeShapes Go.WideShapes Go.ChangeAt Go.Proofs.YtmdjbldmfmoaaaaW.PrintWords
set_option linter.unusedVariables false
open Ba Bu Bw
def wk (k : Nat) : W8 := ⟨1, k, 0, ⟨3, 0, 0, 0, k⟩⟩
def Lk (k : Nat) : List W8 := (List.range (min k 64)).map wk
def w77 : W8 := ⟨1, 5, 0, ⟨3, 0, 0, 0, 77⟩⟩
theorem put_k : ∀ k, k < 68 → putL (Lk k) (wk k) = Lk (k + 1) ∧ putE (Lk k) (wk k) = (if k < 64 then 0 else 9) := by decide +kernel
theorem put_77 : ∀ d, d < 8 → (putL (Lk (60 + d)) w77).length = min (60 + d) 64 ∧ ((putL (Lk (60 + d)) w77).getD 5 z8).v.ref = 77 ∧ putE (Lk (60 + d)) w77 = 0 := by decide +kernel
theorem modl8 (m : Int) : ∃ d : Nat, d < 8 ∧ wrap64 ((IntKind.u64.wrap m).tmod 8) = (d : Int) := by
  have h0 : 0 ≤ m % 18446744073709551616 := Int.emod_nonneg _ (by omega)
  rw [IntKind.wrap_u64, Int.tmod_eq_emod_of_nonneg h0]
  refine ⟨(m % 18446744073709551616 % 8).toNat, by omega, ?_⟩
  unfold wrap64
  omega
set_option maxHeartbeats 8000000 in
theorem walk (w : World) (a0 : Int) (w0 : (Lit.int .i64 a0).wf = true) :
    Calls Try.prog 3 #[.int .i64 a0] w fun e w' => e = .returned (.bool true) ∧ Below w.heap.size w w' := by
  obtain ⟨d, hd, hm⟩ := modl8 a0
  obtain ⟨n, hn⟩ : ∃ n : Nat, n = 60 + d := ⟨_, rfl⟩
  have hs : (60 : Int) + (d : Int) = (n : Int) := by omega
  have P77 := Lib.hid (put_77 d hd)
  rw [← hn] at P77
  have h60 : 60 ≤ n := by omega
  have h67 : n ≤ 67 := by omega
  clear hd hn
  go_enter Try.func3, Try.ntmps3
  go_wp2_with fail
  refine (new_any w).mono ?_
  rintro e w1 ⟨rfl, rfl⟩
  have hb := (Below.refl w.heap.size w).alloc (Nat.le_refl _) (.cells #[.slice none 0 0] 54)
  have HF := Lib.hid (bf_new w)
  have HB := Lib.hid hb
  clear hb
  go_wp2
  go_loopw [15] (fun i wr => ∃ (k : Nat) (v : Value), k ≤ n ∧ i = .int .i64 (k : Int) ∧ Bf wr w.heap.size w.heap.size v (Lk k) ∧ Below w.heap.size w wr) (fun i _ => n - (intOf i).toNat)
  case atStart => exact ⟨0, _, by omega, rfl, HF.out, HB.out⟩
  case round =>
    obtain ⟨k, v, hk, rfl, hf, hb⟩ := hrel
    have HFk := Lib.hid hf
    clear hf HF HB hm hs
    by_cases hlt : k < n
    · have PK := Lib.hid (put_k k (by omega))
      have hk64 : k < 64 ∨ 64 ≤ k := by omega
      rcases hk64 with hk64 | hk64
      all_goals
        go_wp2_with fail
        refine (ref_any _ _).mono ?_
        rintro e w1 ⟨rfl, cs1, rfl⟩
        have hl := (Below.refl wr.heap.size wr).alloc (Nat.le_refl _) (.cells cs1 28)
        have HF1 := Lib.hid (HFk.out.later hl)
        have hb1 := hb.trans (hl.mono hb.size)
        clear hl hb
        unfold agg5
        dsimp only
        go_wp2_with fail
        refine (put_any w.heap.size w.heap.size v _ (wk k) _ HF1.out).mono ?_
        rintro e w2 ⟨rfl, v2, hf2, hk2, _⟩
        have hb2 := hb1.trans (hk2.below HF1.out)
        rw [PK.out.1] at hf2
        rw [PK.out.2]
        have HF2 := Lib.hid hf2
        clear HF1 hk2 hf2 hb1 HFk
      · rw [if_pos hk64]
        go_wp2
        go_roundw
        case rel => exact ⟨k + 1, v2, by omega, by go_num, HF2.out, hb2⟩
        case measure => simp [intOf]; omega
      · rw [if_neg (by omega)]
        go_wp2
        go_roundw
        case rel => exact ⟨k + 1, v2, by omega, by go_num, HF2.out, hb2⟩
        case measure => simp [intOf]; omega
    · obtain rfl : k = n := by omega
      go_wp2_with fail
      refine (ref_any _ _).mono ?_
      rintro e w1 ⟨rfl, cs1, rfl⟩
      have hl := (Below.refl wr.heap.size wr).alloc (Nat.le_refl _) (.cells cs1 28)
      have HF1 := Lib.hid (HFk.out.later hl)
      have hb1 := hb.trans (hl.mono hb.size)
      clear hl hb
      unfold agg5
      dsimp only
      go_wp2_with fail
      refine (put_any w.heap.size w.heap.size v _ w77 _ HF1.out).mono ?_
      rintro e w2 ⟨rfl, v2, hf2, hk2, _⟩
      have hb2 := hb1.trans (hk2.below HF1.out)
      rw [P77.out.2.2]
      have hlen := P77.out.1
      have h77 := P77.out.2.1
      obtain ⟨L, hL⟩ : ∃ L, putL (Lk k) w77 = L := ⟨_, rfl⟩
      rw [hL] at hf2 hlen h77
      have HF2 := Lib.hid hf2
      have HLEN := Lib.hid hlen
      have hL60 : 60 ≤ L.length := by omega
      clear HF1 hk2 hf2 hb1 HFk P77 hL hlen
      go_wp2_with fail
      refine (all_any w.heap.size w.heap.size _ _ _ HF2.out).mono ?_
      rintro e w6 ⟨v6, rfl, hr6, hb6⟩
      have HF6 := Lib.hid (HF2.out.later hb6)
      have hb7 := hb2.trans (hb6.mono hb2.size)
      obtain ⟨A, c, rfl, _, hC⟩ := hr6.reads
      have HC := Lib.hid hC
      clear hr6 hC hb6 hb2 HF2
      go_wp2_with fail
      refine (len_any w.heap.size w.heap.size _ _ _ HF6.out).mono ?_
      rintro e w8 ⟨rfl, hb8⟩
      obtain ⟨ad, rfl, hc⟩ := at_W8 (Kd.C_below HC.out hb8) 5 (by omega)
      have q7 := hc.c7
      rw [h77] at q7
      have hb9 := hb7.trans (hb8.mono hb7.size)
      have q7' : w8.cell? ⟨ad.block, ad.off + 40 + 7, none⟩ = some (.int .i64 77) := q7
      have q7'' : w8.cell? ⟨ad.block, ad.off + 47, none⟩ = some (.int .i64 77) := q7
      have h5 : (5 : Int) < (L.length : Int) := by omega
      have hLL : L.length ≤ 64 := by have := HLEN.out; omega
      clear hc hb7 hb8 HF6 HC h77 q7
      have hcase : (k ≤ 64 ∧ L.length = k) ∨ (64 < k ∧ L.length = 64) := by have := HLEN.out; omega
      rcases hcase with ⟨c1, c2⟩ | ⟨c1, c2⟩
      all_goals
        rw [c2]
        clear c2 HLEN h5 hL60 hLL
        go_wp2_with fail
        refine (awake_any _).mono ?_
        rintro e w9 ⟨rfl, hb10⟩
        have hb11 := hb9.trans (hb10.mono hb9.size)
        clear hb10
        go_wp2
        go_ret
        exact ⟨rfl, hb11⟩

theorem own : ownKnob Try.prog.godebug = none := by kernel_rfl
theorem laidOut : laidOutB Try.prog = true := by kernel_rfl
set_option maxRecDepth 100000 in
theorem lifted (os : Os) (started : os.Started) (H : Type) (enc : TypeId × Value → H) :
    ReturnsInHanded {} Try.checked os 3 .any (Rows.bufferManySpec.pre6 enc Try.prog Try.f3 Rows.bufferManyRow.domain false) (Rows.bufferManySpec.post enc Try.prog Try.f3 false true false false) := by
  refine returnsInHanded_of_change (C := Try.checked) own started (by kernel_rfl) Try.func3
    (ChangeSpec.witness6 (enc := enc) (C := Try.checked) false ⟨#[], #[.int .i64 0], []⟩ 8 (by kernel_rfl) (by kernel_rfl) (by kernel_rfl) (by kernel_rfl)) ?_
  intro W base args ds gs before hval0 hW hcnd _
  have hval : ∀ (j : Nat) t v, Try.f3.params[j]? = some t → args[j]? = some v → Value.okWide Try.prog W .any base t v := hval0
  have hW' := hW
  obtain ⟨p, q, hA0, hV, rfl, hfz, hnd⟩ := hW
  have hA : DataW.TrodAll enc Try.prog W 0 (fun _ => true) true Try.f3.params.toList args.toList ds p := hA0
  rw [Try.params3] at hA hval
  obtain ⟨v0, vs0, d0, ds0, p0, q0, hargs, rfl, rfl, h0, r0⟩ := trodAll_cons hA
  obtain ⟨rfl, rfl, rfl⟩ := trodAll_nil r0
  obtain rfl : args = #[v0] := by cases args; simp_all
  obtain ⟨rfl, rfl⟩ := trodVars_none hV
  obtain ⟨a0, rfl, rfl, rfl, w0⟩ := open_int Try.underlying3 (hval 0 3 v0 rfl rfl) h0
  clear hA0 hval0
  refine (walk W a0 w0).mono fun e W' ⟨he, bel⟩ => ?_
  subst he
  exact ⟨_, rfl, _, _, _, [], _, [], hW', trodAll_mk1 (shut_bool Try.underlying4 _), (trodAll_cons_mk (shut_int Try.underlying3 w0) trodAll_mk0), rfl, bel.frame _, fun h => by cases h⟩
theorem over : Rows.bufferManyRow.holds Try.pinned (OpenSpec.ofChange Rows.bufferManySpec) :=
  OpenClaim.holds_of_wide 3 Try.f3 rfl rfl rfl rfl rfl rfl rfl ⟨rfl, rfl, rfl, rfl, rfl⟩ rfl rfl rfl rfl rfl (by kernel_rfl) Try.func3 (by kernel_rfl)
    (of_decide_eq_true (by kernel_rfl)) (by unfold Func.isWrapper; first | (rw [if_pos (by decide +kernel)]; kernel_rfl) | (rw [if_neg (by decide +kernel)]; exact ⟨rfl, rfl⟩))
    (fun os started H enc _ => lifted os started H enc)
theorem proved : Rows.BufferManySaid := over
#print axioms proved
end Go.Proofs.Ytmdjbldmfmoaaaa.bufferMany
