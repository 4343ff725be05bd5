/- The Go functions of package cplx (and of its reference) compute what the plain functions say: one contract a function. -/
import Derived.Test.YtogejpepaggagaaRows
import Derived.Test.YtogejpepaggagaaFlip
import Derived.WalkKit
import Derived.WalkSpells
import Derived.WalkLawsBesides
import Derived.Deep.QuietTactic
import Derived.BigQuiet
namespace Go.Proofs.Ytogejpepaggagaa.Cx
open Go.RowKit

theorem frombits (n : Int) (w : World) : (callFunc 32 #[.int .u64 n]).run Try.prog w = .ok (.value (.float .f64 n.toNat)) w := by
  rw [run_callFunc_extern Try.func32 (by kernel_rfl) (by kernel_rfl) (by kernel_rfl) (e := Extern.MathFloatBits.float64frombits) (by kernel_rfl)]
  rfl
theorem bits (n : Nat) (w : World) : (callFunc 33 #[.float .f64 n]).run Try.prog w = .ok (.value (.int .u64 n)) w := by
  rw [run_callFunc_extern Try.func33 (by kernel_rfl) (by kernel_rfl) (by kernel_rfl) (e := Extern.MathFloatBits.float64bits) (by kernel_rfl)]
  rfl

def Dr (w w' : World) : Prop := ∃ n, w' = w.drewN n
theorem Dr.refl (w : World) : Dr w w := ⟨0, rfl⟩
theorem Dr.fopW {w v : World} (h : Dr w v) (op : BinOp) (x y : Nat) : Dr w (fopW op x y v) := by
  obtain ⟨n, rfl⟩ := h
  obtain ⟨m, hm⟩ := fopW_drewN op x y (w.drewN n)
  exact ⟨n + m, by rw [hm, World.drewN_drewN]⟩

theorem part_any (x : Nat) (w : World) :
    Calls Try.prog 38 #[.float .f64 x] w fun e w' => e = .returned (.float .f64 (cl x)) ∧ w = w' := by
  have hb := frombits
  by_cases h : (FloatKind.f64.format.order x x != some .eq) = true
  · have e : cl x = 9221120237041090561 := if_pos h
    rw [e]; clear e
    go_enter Try.func38, Try.ntmps38
    go_wp2
    go_ret
    exact ⟨rfl, rfl⟩
  · have e : cl x = x := if_neg h
    rw [e]; clear e
    have h : (FloatKind.f64.format.order x x != some .eq) = false := by simpa using h
    go_enter Try.func38, Try.ntmps38
    go_wp2
    go_ret
    exact ⟨rfl, rfl⟩
theorem clean_any (x : Nat) (w : World) :
    Calls Try.prog 35 #[.float .f64 x] w fun e w' => e = .returned (.float .f64 (cl x)) ∧ w = w' := by
  have hb := frombits
  by_cases h : (FloatKind.f64.format.order x x != some .eq) = true
  · have e : cl x = 9221120237041090561 := if_pos h
    rw [e]; clear e
    go_enter Try.func35, Try.ntmps35
    go_wp2
    go_ret
    exact ⟨rfl, rfl⟩
  · have e : cl x = x := if_neg h
    rw [e]; clear e
    have h : (FloatKind.f64.format.order x x != some .eq) = false := by simpa using h
    go_enter Try.func35, Try.ntmps35
    go_wp2
    go_ret
    exact ⟨rfl, rfl⟩

theorem made_any (x y : Nat) (w : World) :
    Calls Try.prog 31 #[.float .f64 x, .float .f64 y] w fun e w' => e = .returned (.complex .f64 (cl x) (cl y)) ∧ w = w' := by
  go_enter Try.func31, Try.ntmps31
  go_wp2_with (go_at_call 38; refine (part_any _ _).mono ?_; rintro e w' ⟨rfl, rfl⟩)
  go_ret
  exact ⟨rfl, rfl⟩

theorem words_any (x y : Nat) (w : World) :
    Calls Try.prog 18 #[.complex .f64 x y] w fun e w' => e = .returned (.tuple #[.int .u64 x, .int .u64 y]) ∧ w = w' := by
  have hb := bits
  go_enter Try.func18, Try.ntmps18
  go_wp2
  go_ret2
  exact ⟨rfl, rfl⟩
theorem rwords_any (x y : Nat) (w : World) :
    Calls Try.prog 34 #[.complex .f64 x y] w fun e w' => e = .returned (.tuple #[.int .u64 x, .int .u64 y]) ∧ w = w' := by
  have hb := bits
  go_enter Try.func34, Try.ntmps34
  go_wp2
  go_ret2
  exact ⟨rfl, rfl⟩
theorem of_any (x y : Int) (w : World) :
    Calls Try.prog 17 #[.int .u64 x, .int .u64 y] w fun e w' => e = .returned (.complex .f64 x.toNat y.toNat) ∧ w = w' := by
  have hb := frombits
  go_enter Try.func17, Try.ntmps17
  go_wp2
  go_ret
  exact ⟨rfl, rfl⟩
theorem rof_any (x y : Int) (w : World) :
    Calls Try.prog 20 #[.int .u64 x, .int .u64 y] w fun e w' => e = .returned (.complex .f64 x.toNat y.toNat) ∧ w = w' := by
  have hb := frombits
  go_enter Try.func20, Try.ntmps20
  go_wp2
  go_ret
  exact ⟨rfl, rfl⟩

theorem conj_any (x y : Nat) (w : World) :
    Calls Try.prog 24 #[.complex .f64 x y] w fun e w' => e = .returned (.complex .f64 x (flip y)) ∧ w = w' := by
  go_enter Try.func24, Try.ntmps24
  go_wp2_with (first | (go_at_call 18; refine (words_any _ _ _).mono ?_; rintro e w' ⟨rfl, rfl⟩) | (go_at_call 17; refine (of_any _ _ _).mono ?_; rintro e w' ⟨rfl, rfl⟩))
  go_ret
  exact ⟨rfl, rfl⟩
theorem rconj_any (x y : Nat) (w : World) :
    Calls Try.prog 25 #[.complex .f64 x y] w fun e w' => e = .returned (.complex .f64 x (flip y)) ∧ w = w' := by
  go_enter Try.func25, Try.ntmps25
  go_wp2_with (first | (go_at_call 34; refine (rwords_any _ _ _).mono ?_; rintro e w' ⟨rfl, rfl⟩) | (go_at_call 20; refine (rof_any _ _ _).mono ?_; rintro e w' ⟨rfl, rfl⟩))
  go_ret
  exact ⟨rfl, rfl⟩

theorem same_any (x y u v : Nat) (w : World) :
    Calls Try.prog 21 #[.complex .f64 x y, .complex .f64 u v] w fun e w' => e = .returned (.bool (x == u && y == v)) ∧ w = w' := by
  by_cases h : x = u
  · subst h
    go_enter Try.func21, Try.ntmps21
    go_wp2_with (go_at_call 18; refine (words_any _ _ _).mono ?_; rintro e w' ⟨rfl, rfl⟩)
    go_ret
    refine ⟨?_, rfl⟩
    have e : ((y : Int) == (v : Int)) = (y == v) := by rw [Bool.eq_iff_iff]; simp; omega
    simp [e]
  · have hn : ((x : Int) == (u : Int)) = false := by rw [beq_eq_false_iff_ne]; omega
    have hx : (x == u) = false := by rw [beq_eq_false_iff_ne]; exact h
    rw [hx]
    go_enter Try.func21, Try.ntmps21
    go_wp2_with (go_at_call 18; refine (words_any _ _ _).mono ?_; rintro e w' ⟨rfl, rfl⟩)
    go_ret
    exact ⟨by simp, rfl⟩
theorem add_any (p q r s : Nat) (w : World) :
    Calls Try.prog 14 #[.complex .f64 p q, .complex .f64 r s] w fun e w' => e = .returned (.complex .f64 (res (floatBits .add .f64 p r)) (res (floatBits .add .f64 q s))) ∧ ∃ n, w' = w.drewN n := by
  have ha := run_fop (P := Try.prog) .add (.inl rfl) 23
  go_enter Try.func14, Try.ntmps14
  go_wp2_with (go_at_call 31; refine (made_any _ _ _).mono ?_; rintro e w' ⟨rfl, rfl⟩)
  go_ret
  obtain ⟨n, hn⟩ := fopW_drewN .add p r w
  obtain ⟨m, hm⟩ := fopW_drewN .add q s (fopW .add p r w)
  rw [cl_fop _ (.inl rfl), cl_fop _ (.inl rfl)]
  exact ⟨rfl, n + m, by rw [hm, hn, World.drewN_drewN]⟩

theorem mul_any (p q r s : Nat) (w : World) :
    Calls Try.prog 15 #[.complex .f64 p q, .complex .f64 r s] w fun e w' =>
      e = .returned (.complex .f64 (res (opq .sub (floatBits .mul .f64 p r) (floatBits .mul .f64 q s))) (res (opq .add (floatBits .mul .f64 p s) (floatBits .mul .f64 q r)))) ∧ ∃ n, w' = w.drewN n := by
  have ha := run_fop (P := Try.prog) .add (.inl rfl) 23
  have hs := run_fop (P := Try.prog) .sub (.inr (.inl rfl)) 23
  have hm := run_fop (P := Try.prog) .mul (.inr (.inr rfl)) 23
  go_enter Try.func15, Try.ntmps15
  go_wp2_with (go_at_call 31; refine (made_any _ _ _).mono ?_; rintro e w' ⟨rfl, rfl⟩)
  go_ret
  rw [cl_fop2 _ _ _ (.inr (.inl rfl)), cl_fop2 _ _ _ (.inl rfl)]
  refine ⟨rfl, ?_⟩
  show Dr w _
  repeat (first | exact Dr.refl _ | apply Dr.fopW)

theorem rsame_any (x y u v : Nat) (w : World) :
    Calls Try.prog 19 #[.complex .f64 x y, .complex .f64 u v] w fun e w' => e = .returned (.bool (x == u && y == v)) ∧ w = w' := by
  by_cases h : x = u
  · subst h
    go_enter Try.func19, Try.ntmps19
    go_wp2_with (go_at_call 34; refine (rwords_any _ _ _).mono ?_; rintro e w' ⟨rfl, rfl⟩)
    go_ret
    refine ⟨?_, rfl⟩
    have e : ((y : Int) == (v : Int)) = (y == v) := by rw [Bool.eq_iff_iff]; simp; omega
    simp [e]
  · have hn : ((x : Int) == (u : Int)) = false := by rw [beq_eq_false_iff_ne]; omega
    have hx : (x == u) = false := by rw [beq_eq_false_iff_ne]; exact h
    rw [hx]
    go_enter Try.func19, Try.ntmps19
    go_wp2_with (go_at_call 34; refine (rwords_any _ _ _).mono ?_; rintro e w' ⟨rfl, rfl⟩)
    go_ret
    exact ⟨by simp, rfl⟩

theorem radd_any (p q r s : Nat) (w : World) :
    Calls Try.prog 22 #[.complex .f64 p q, .complex .f64 r s] w fun e w' => e = .returned (.complex .f64 (res (floatBits .add .f64 p r)) (res (floatBits .add .f64 q s))) ∧ ∃ n, w' = w.drewN n := by
  have ha := run_fop (P := Try.prog) .add (.inl rfl) 23
  go_enter Try.func22, Try.ntmps22
  go_wp2_with (go_at_call 35; refine (clean_any _ _).mono ?_; rintro e w' ⟨rfl, rfl⟩)
  go_ret
  rw [cl_fop _ (.inl rfl), cl_fop _ (.inl rfl)]
  refine ⟨rfl, ?_⟩
  show Dr w _
  repeat (first | exact Dr.refl _ | apply Dr.fopW)

theorem rmul_any (p q r s : Nat) (w : World) :
    Calls Try.prog 23 #[.complex .f64 p q, .complex .f64 r s] w fun e w' =>
      e = .returned (.complex .f64 (res (opq .sub (floatBits .mul .f64 p r) (floatBits .mul .f64 q s))) (res (opq .add (floatBits .mul .f64 p s) (floatBits .mul .f64 q r)))) ∧ ∃ n, w' = w.drewN n := by
  have ha := run_fop (P := Try.prog) .add (.inl rfl) 23
  have hs := run_fop (P := Try.prog) .sub (.inr (.inl rfl)) 23
  have hm := run_fop (P := Try.prog) .mul (.inr (.inr rfl)) 23
  go_enter Try.func23, Try.ntmps23
  go_wp2_with (go_at_call 35; refine (clean_any _ _).mono ?_; rintro e w' ⟨rfl, rfl⟩)
  go_ret
  rw [cl_fop2 _ _ _ (.inr (.inl rfl)), cl_fop2 _ _ _ (.inl rfl)]
  refine ⟨rfl, ?_⟩
  show Dr w _
  repeat (first | exact Dr.refl _ | apply Dr.fopW)

theorem floatOfInt_is (n : Int) (hn : n.natAbs < 9007199254740992) : Is (floatOfInt .f64 n) n := of_int n hn
theorem add_whole (p q r s : Nat) (a b c d : Int) (hp : Is p a) (hq : Is q b) (hr : Is r c) (hs : Is s d) (ha : a.natAbs ≤ 4503599627370495) (hb : b.natAbs ≤ 4503599627370495)
    (hc : c.natAbs ≤ 4503599627370495) (hd : d.natAbs ≤ 4503599627370495) (w : World) :
    Calls Try.prog 14 #[.complex .f64 p q, .complex .f64 r s] w fun e w' => ∃ x y, e = .returned (.complex .f64 x y) ∧ Is x (a + c) ∧ Is y (b + d) ∧ ∃ n, w' = w.drewN n :=
  (add_any p q r s w).mono fun e w' ⟨he, hw⟩ => ⟨_, _, he, is_res (add_is hp hr (by omega)), is_res (add_is hq hs (by omega)), hw⟩

theorem mul_whole (p q r s : Nat) (a b c d : Int) (hp : Is p a) (hq : Is q b) (hr : Is r c) (hs : Is s d) (ha : a.natAbs ≤ 67108863) (hb : b.natAbs ≤ 67108863)
    (hc : c.natAbs ≤ 67108863) (hd : d.natAbs ≤ 67108863) (w : World) :
    Calls Try.prog 15 #[.complex .f64 p q, .complex .f64 r s] w fun e w' => ∃ x y, e = .returned (.complex .f64 x y) ∧ Is x (a * c - b * d) ∧ Is y (a * d + b * c) ∧ ∃ n, w' = w.drewN n := by
  refine (mul_any p q r s w).mono fun e w' ⟨he, hw⟩ => ⟨_, _, he, ?_, ?_, hw⟩
  · have h1 := abs_mul ha hc
    have h2 := abs_mul hb hd
    obtain ⟨x, hx, hx'⟩ := mul_is hp hr (by omega)
    obtain ⟨y, hy, hy'⟩ := mul_is hq hs (by omega)
    have e1 : floatBits .mul .f64 p r = some x := hx
    have e2 : floatBits .mul .f64 q s = some y := hy
    rw [e1, e2]
    exact is_res (sub_is hx' hy' (by omega))
  · have h1 := abs_mul ha hd
    have h2 := abs_mul hb hc
    obtain ⟨x, hx, hx'⟩ := mul_is hp hs (by omega)
    obtain ⟨y, hy, hy'⟩ := mul_is hq hr (by omega)
    have e1 : floatBits .mul .f64 p s = some x := hx
    have e2 : floatBits .mul .f64 q r = some y := hy
    rw [e1, e2]
    exact is_res (add_is hx' hy' (by omega))

/-- Two words that stand for one whole number are equal to Go's '=='. -/
theorem eq_whole {x y : Nat} {a b : Int} (hx : Is x a) (hy : Is y b) (h : a = b) : (FloatKind.f64.format.order x y == some Ordering.eq) = true := by
  have := order_eq_is hx hy
  rw [decide_eq_true h] at this
  exact this

theorem awake_any (w : World) : Calls Try.prog 16 #[] w fun e w' => e = .returned (.bool true) ∧ ∃ n, w' = w.drewN n := by
  go_enter Try.func16, Try.ntmps16
  go_wp2_with fail
  refine (mul_any _ _ _ _ _).mono ?_
  rintro e w' ⟨rfl, n, rfl⟩
  have h1 : (FloatKind.f64.format.order (res (opq .sub (floatBits .mul .f64 4607182418800017408 4613937818241073152) (floatBits .mul .f64 4611686018427387904 4616189618054758400))) 13840687554816376832 == some Ordering.eq) = true := by decide +kernel
  have h2 : (FloatKind.f64.format.order (res (opq .add (floatBits .mul .f64 4607182418800017408 4616189618054758400) (floatBits .mul .f64 4611686018427387904 4613937818241073152))) 4621819117588971520 == some Ordering.eq) = true := by decide +kernel
  go_wp2
  go_ret
  exact ⟨rfl, n, rfl⟩
theorem grown_drewN {w : World} (n : Nat) : Grown w (w.drewN n) := by
  induction n with
  | zero => exact Grown.refl _
  | succ n ih => exact Grown.drew ih
theorem rsame_self (x y : Nat) (w : World) : Calls Try.prog 19 #[.complex .f64 x y, .complex .f64 x y] w fun e w' => e = .returned (.bool true) ∧ w = w' :=
  (rsame_any x y x y w).mono fun _ _ ⟨he, hw⟩ => ⟨by simpa using he, hw⟩
theorem same_self (x y : Nat) (w : World) : Calls Try.prog 21 #[.complex .f64 x y, .complex .f64 x y] w fun e w' => e = .returned (.bool true) ∧ w = w' :=
  (same_any x y x y w).mono fun _ _ ⟨he, hw⟩ => ⟨by simpa using he, hw⟩
theorem u64_nat {a : Int} (h : (Lit.int .u64 a).wf = true) : ∃ n : Nat, a = (n : Int) ∧ n < 18446744073709551616 := by
  simp [Lit.wf, IntKind.min, IntKind.max, IntKind.signed, IntKind.bits] at h
  exact ⟨a.toNat, by omega, by omega⟩
end Go.Proofs.Ytogejpepaggagaa.Cx
