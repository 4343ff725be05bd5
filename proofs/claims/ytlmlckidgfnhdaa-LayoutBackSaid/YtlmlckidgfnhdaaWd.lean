/- Types as words; the program's and the reference's. -/
import Derived.Test.YtlmlckidgfnhdaaWb
import Derived.Test.YtlmlckidgfnhdaaNw
namespace Go.Proofs.Ytlmlckidgfnhdaa.Wd
open Go.RowKit Go.ChangeShapes Go.WideShapes Go.Proofs.YtlmlckidgfnhdaaW.PrintWords Go.Proofs.Ytlmlckidgfnhdaa.Ba Go.Proofs.Ytlmlckidgfnhdaa.Kw Go.Proofs.Ytlmlckidgfnhdaa.Kx Go.Proofs.Ytlmlckidgfnhdaa.Nw Go.Proofs.Ytlmlckidgfnhdaa.Wb
set_option linter.unusedVariables false
set_option linter.unusedSimpArgs false
def sm (l : List Int) : Nat → Nat
  | 0 => 0
  | k + 1 => sm l k + (l.getD k 0).toNat * 2 ^ (4 + 2 * k)
def pkA (l : List Int) (k : Nat) : Nat := l.length + sm l k
def wordK (l : List Int) : Nat := if kM l then pkA l l.length else 0
theorem fw_field {f : Int} (h : fw f ≠ 0) : 1 ≤ f ∧ f ≤ 3 := by
  unfold fw at h
  split at h
  · omega
  split at h
  · omega
  split at h
  · omega
  exact absurd rfl h
theorem kM_fields {l : List Int} (h : kM l = true) (i : Nat) (hi : i < l.length) : 1 ≤ l.getD i 0 ∧ l.getD i 0 ≤ 3 := by
  have hl := kM_len h
  have hw : 0 < kW l := by
    unfold kM at h
    rw [Bool.and_eq_true, decide_eq_true_eq] at h
    exact h.1
  unfold kW at hw
  rw [if_neg (by omega), if_neg (by omega)] at hw
  by_cases ha : l.all (fun f => decide (fw f ≠ 0)) = true
  · have := List.all_eq_true.1 ha _ (mem_getD (d := (0 : Int)) hi)
    exact fw_field (by simpa using this)
  · rw [if_neg ha] at hw; omega
theorem pk_lt {l : List Int} (h : kM l = true) (k : Nat) (hk : k ≤ l.length) : pkA l k < 2 ^ (4 + 2 * k) := by
  have hl := kM_len h
  induction k with
  | zero => show l.length + 0 < 16; omega
  | succ k ih =>
    have h1 := ih (by omega)
    have hf := kM_fields h k (by omega)
    have hfn : (l.getD k 0).toNat ≤ 3 := by omega
    have h2 : (l.getD k 0).toNat * 2 ^ (4 + 2 * k) ≤ 3 * 2 ^ (4 + 2 * k) := Nat.mul_le_mul_right _ hfn
    have h3 : 2 ^ (4 + 2 * (k + 1)) = 4 * 2 ^ (4 + 2 * k) := by rw [show 4 + 2 * (k + 1) = 4 + 2 * k + 2 by omega, Nat.pow_add]; omega
    rw [h3]
    unfold pkA at h1 ⊢
    show l.length + (sm l k + (l.getD k 0).toNat * 2 ^ (4 + 2 * k)) < _
    omega
def U64Post (n : Nat) (w : World) (e : Ending) (w' : World) : Prop := e = .returned (.int .u64 (n : Int)) ∧ Below w.heap.size w w'
set_option maxHeartbeats 4000000 in
set_option maxRecDepth 20000 in
theorem word_any (A : Option Addr) (c : Nat) (l : List Int) (w : World) (h : Rd w A l) : Calls Try.prog 41 #[.agg #[.slice A l.length c]] w (U64Post (wordK l) w) := by
  have hb := (Below.refl w.heap.size w).alloc (Nat.le_refl _) (.cells #[.slice A l.length c] 54)
  have HK := Lib.hid (kmay_any A c l _ (h.below hb.block))
  have HB := Lib.hid hb
  have HX := Lib.hid (heap_alloc_new w (.cells #[.slice A l.length c] 54))
  have HR := Lib.hid (h.below hb.block)
  have HW : Hid (wordK l = if kM l then pkA l l.length else 0) := Lib.hid rfl
  clear h hb
  cases em : kM l
  · rw [em] at HK HW
    have HE : Hid (wordK l = 0) := Lib.hid HW.out
    go_enter Try.func41, Try.ntmps41
    go_wp2_with fail
    refine HK.out.mono ?_
    rintro e w1 ⟨rfl, hb1⟩
    have HB1 := Lib.hid (HB.out.trans (hb1.mono HB.out.size))
    clear hb1
    go_wp2
    go_ret
    rw [HE.out]
    exact ⟨rfl, HB1.out⟩
  · have HEM := Lib.hid em
    have hlen := kM_len em
    rw [em] at HK HW
    have HE : Hid (wordK l = pkA l l.length) := Lib.hid HW.out
    have hw1 : IntKind.u64.wrap (l.length : Int) = (l.length : Int) := wrap_nat _ (by omega)
    clear em
    go_enter Try.func41, Try.ntmps41
    go_wp2_with fail
    refine HK.out.mono ?_
    rintro e w1 ⟨rfl, hb1⟩
    have HB1 := Lib.hid (HB.out.trans (hb1.mono HB.out.size))
    have HX1 := Lib.hid (blk_below HX.out hb1)
    have HR1 := Lib.hid (HR.out.below hb1.block)
    have c0 : w1.cell? ⟨w.heap.size, 0, none⟩ = some (.slice A l.length c) := by rw [blk_cell HX1.out]; rfl
    clear hb1
    go_wp2_with fail
    refine (set4 l.length (by omega) _).mono ?_
    rintro e w2 ⟨rfl, rfl⟩
    go_wp2
    go_loop [3, 17] (fun v i => ∃ k : Nat, k ≤ l.length ∧ i = .int .i64 (k : Int) ∧ v = .int .u64 (pkA l k : Int)) (fun _ i => l.length - (intOf i).toNat)
    case atStart => exact ⟨0, by omega, rfl, rfl⟩
    case round =>
      obtain ⟨k, hk, rfl, rfl⟩ := hrel
      by_cases hlt : k < l.length
      · obtain ⟨ad, rfl, hc⟩ := HR1.out k hlt
        have hf := kM_fields HEM.out k hlt
        have hp := pk_lt HEM.out k hk
        have HN : Hid (pkA l (k + 1) = pkA l k + (l.getD k 0).toNat * 2 ^ (4 + 2 * k)) := Lib.hid (by show l.length + (sm l k + _) = l.length + sm l k + _; omega)
        obtain ⟨x, hx⟩ : ∃ x, pkA l k = x := ⟨_, rfl⟩
        obtain ⟨f, hfn⟩ : ∃ f : Nat, l.getD k 0 = (f : Int) := ⟨(l.getD k 0).toNat, by omega⟩
        rw [hfn] at hc hf HN
        rw [hx] at hp HN
        rw [hx]
        obtain ⟨m, hm⟩ : ∃ m : Nat, m = 4 + 2 * k := ⟨_, rfl⟩
        have hmi : (4 : Int) + 2 * (k : Int) = (m : Int) := by omega
        rw [← hm] at hp HN
        have hw2 : IntKind.u64.wrap (f : Int) = (f : Int) := wrap_nat _ (by omega)
        have HS := Lib.hid (set2 x f m (by omega) hp (by omega) w1)
        have HN2 : Hid (pkA l (k + 1) = x + f * 2 ^ m) := Lib.hid (by rw [HN.out, Int.toNat_natCast])
        clear hp hx hfn HN hm
        go_wp2_with fail
        refine HS.out.mono ?_
        rintro e w2 ⟨rfl, rfl⟩
        go_wp2
        go_round
        case rel => exact ⟨k + 1, by omega, by go_num, by rw [HN2.out, Int.natCast_add, ← cast_mul_pow]⟩
        case measure => simp [intOf]; omega
      · obtain rfl : k = l.length := by omega
        go_wp2
        go_ret
        rw [HE.out]
        exact ⟨rfl, HB1.out⟩
set_option maxHeartbeats 4000000 in
set_option maxRecDepth 20000 in
theorem rword_any (A : Option Addr) (c : Nat) (l : List Int) (w : World) (h : Rd w A l) : Calls Try.prog 42 #[.agg #[.slice A l.length c]] w (U64Post (wordK l) w) := by
  have hb := (Below.refl w.heap.size w).alloc (Nat.le_refl _) (.cells #[.slice A l.length c] 54)
  have HK := Lib.hid (rkmay_any A c l _ (h.below hb.block))
  have HB := Lib.hid hb
  have HX := Lib.hid (heap_alloc_new w (.cells #[.slice A l.length c] 54))
  have HR := Lib.hid (h.below hb.block)
  have HW : Hid (wordK l = if kM l then pkA l l.length else 0) := Lib.hid rfl
  clear h hb
  cases em : kM l
  · rw [em] at HK HW
    have HE : Hid (wordK l = 0) := Lib.hid HW.out
    go_enter Try.func42, Try.ntmps42
    go_wp2_with fail
    refine HK.out.mono ?_
    rintro e w1 ⟨rfl, hb1⟩
    have HB1 := Lib.hid (HB.out.trans (hb1.mono HB.out.size))
    clear hb1
    go_wp2
    go_ret
    rw [HE.out]
    exact ⟨rfl, HB1.out⟩
  · have HEM := Lib.hid em
    have hlen := kM_len em
    rw [em] at HK HW
    have HE : Hid (wordK l = pkA l l.length) := Lib.hid HW.out
    have hw1 : IntKind.u64.wrap (l.length : Int) = (l.length : Int) := wrap_nat _ (by omega)
    clear em
    go_enter Try.func42, Try.ntmps42
    go_wp2_with fail
    refine HK.out.mono ?_
    rintro e w1 ⟨rfl, hb1⟩
    have HB1 := Lib.hid (HB.out.trans (hb1.mono HB.out.size))
    have HX1 := Lib.hid (blk_below HX.out hb1)
    have HR1 := Lib.hid (HR.out.below hb1.block)
    have c0 : w1.cell? ⟨w.heap.size, 0, none⟩ = some (.slice A l.length c) := by rw [blk_cell HX1.out]; rfl
    clear hb1
    go_wp2
    go_loop [3, 16] (fun v i => ∃ k : Nat, k ≤ l.length ∧ i = .int .i64 (k : Int) ∧ v = .int .u64 (pkA l k : Int)) (fun _ i => l.length - (intOf i).toNat)
    case atStart => exact ⟨0, by omega, rfl, rfl⟩
    case round =>
      obtain ⟨k, hk, rfl, rfl⟩ := hrel
      by_cases hlt : k < l.length
      · obtain ⟨ad, rfl, hc⟩ := HR1.out k hlt
        have hf := kM_fields HEM.out k hlt
        have hp := pk_lt HEM.out k hk
        have HN : Hid (pkA l (k + 1) = pkA l k + (l.getD k 0).toNat * 2 ^ (4 + 2 * k)) := Lib.hid (by show l.length + (sm l k + _) = l.length + sm l k + _; omega)
        obtain ⟨x, hx⟩ : ∃ x, pkA l k = x := ⟨_, rfl⟩
        obtain ⟨f, hfn⟩ : ∃ f : Nat, l.getD k 0 = (f : Int) := ⟨(l.getD k 0).toNat, by omega⟩
        rw [hfn] at hc hf HN
        rw [hx] at hp HN
        rw [hx]
        obtain ⟨m, hm⟩ : ∃ m : Nat, m = 4 + 2 * k := ⟨_, rfl⟩
        have hmi : (4 : Int) + 2 * (k : Int) = (m : Int) := by omega
        rw [← hm] at hp HN
        have hw2 : IntKind.u64.wrap (f : Int) = (f : Int) := wrap_nat _ (by omega)
        have hpl := pow_le m (by omega)
        have hfm : f * 2 ^ m ≤ 3 * 2 ^ m := Nat.mul_le_mul_right _ (by omega)
        have HV : Hid (bits .or .u64 (x : Int) (IntKind.u64.wrap ((f : Int) * 2 ^ m)) = ((pkA l (k + 1) : Nat) : Int)) := Lib.hid (by
          rw [HN.out, Int.toNat_natCast, cast_mul_pow, wrap_nat _ (by omega), bits_or_u64_nat x (f * 2 ^ m) (by omega) (by omega), or_add x f m hp])
        have hm60 : m ≤ 60 := by omega
        clear hp hx hfn HN hpl hfm hm
        go_wp2
        go_round
        case rel => exact ⟨k + 1, by omega, by go_num, by rw [← HV.out]⟩
        case measure => simp [intOf]; omega
      · obtain rfl : k = l.length := by omega
        go_wp2
        go_ret
        rw [HE.out]
        exact ⟨rfl, HB1.out⟩
end Go.Proofs.Ytlmlckidgfnhdaa.Wd
