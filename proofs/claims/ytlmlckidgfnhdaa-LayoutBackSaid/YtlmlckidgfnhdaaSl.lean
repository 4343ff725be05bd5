/- Root, Weak, Log, Bits, Size. -/
import Derived.Test.YtlmlckidgfnhdaaTa
namespace Go.Proofs.Ytlmlckidgfnhdaa.Sl
open Go.RowKit Go.ChangeShapes Go.WideShapes Go.Proofs.YtlmlckidgfnhdaaW.PrintWords Go.Proofs.Ytlmlckidgfnhdaa.Ba Go.Proofs.Ytlmlckidgfnhdaa.Pl Go.Proofs.Ytlmlckidgfnhdaa.Pc Go.Proofs.Ytlmlckidgfnhdaa.Nw Go.Proofs.Ytlmlckidgfnhdaa.Rg Go.Proofs.Ytlmlckidgfnhdaa.Ca Go.Proofs.Ytlmlckidgfnhdaa.Ta
set_option linter.unusedVariables false
set_option linter.unusedSimpArgs false
theorem lat_cells {w : World} {g : Nat} {A : Option Addr} {k : Nat} {c : Cf} (h : LAt w g A k c) : w.cell? ⟨g, 5, none⟩ = some (.int .i64 c.ro) ∧ w.cell? ⟨g, 6, none⟩ = some (.int .i64 c.we) ∧ w.cell? ⟨g, 7, none⟩ = some (.int .i64 c.lg) ∧ w.cell? ⟨g, 8, none⟩ = some (.int .i64 (rootsA c)) ∧ w.cell? ⟨g, 9, none⟩ = some (.int .i64 (bitsA c)) ∧ w.cell? ⟨g, 10, none⟩ = some (.int .i64 (logA c)) := by
  refine ⟨?_, ?_, ?_, ?_, ?_, ?_⟩ <;> (rw [blk_cell h]; rfl)
def TwoPost (x y : Int) (w : World) (e : Ending) (w' : World) : Prop := e = .returned (.tuple #[.int .i64 x, .int .i64 y]) ∧ Below w.heap.size w w'
theorem root_any (g : Nat) (A : Option Addr) (k : Nat) (c : Cf) (i : Int) (w : World) (h : LAt w g A k c) (h0 : 0 ≤ i) (h1 : i < c.ro) (hb : 0 ≤ rootsA c ∧ rootsA c ≤ 1000000) (hr : c.ro ≤ 1000) : Calls Try.prog 25 #[.pointer (some ⟨g, 0, none⟩), .int .i64 i] w (IntPost (rootsA c + i) w) := by
  obtain ⟨p5, p6, p7, p8, p9, p10⟩ := lat_cells h
  obtain ⟨r, hr'⟩ : ∃ r, rootsA c = r := ⟨_, rfl⟩
  obtain ⟨n, hn⟩ : ∃ n, c.ro = n := ⟨_, rfl⟩
  rw [hr'] at p8 hb ⊢
  rw [hn] at p5 h1 hr
  have ke : ∀ W : World, (binOp .eql 31 (.pointer (some ⟨g, 0, none⟩)) (.pointer none)).run Try.prog W = .ok (.bool false) W := fun W => by rfl
  clear h p6 p7 p9 p10 hr' hn
  go_enter Try.func25, Try.ntmps25
  go_wp2
  go_ret
  exact ⟨rfl, Below.refl _ _⟩
theorem weak_none (g : Nat) (i : Int) (w : World) (h0 : i < 0) : Calls Try.prog 26 #[.pointer (some ⟨g, 0, none⟩), .int .i64 i] w (IntPost (-1) w) := by
  have ke : ∀ W : World, (binOp .eql 31 (.pointer (some ⟨g, 0, none⟩)) (.pointer none)).run Try.prog W = .ok (.bool false) W := fun W => by rfl
  go_enter Try.func26, Try.ntmps26
  go_wp2
  go_ret
  exact ⟨rfl, Below.refl _ _⟩
theorem weak_any (g : Nat) (A : Option Addr) (k : Nat) (c : Cf) (i : Int) (w : World) (h : LAt w g A k c) (h0 : 0 ≤ i) (h1 : i < c.we) (hb : 0 ≤ rootsA c ∧ rootsA c ≤ 1000000) (hr : 0 ≤ c.ro ∧ c.ro ≤ 1000) (hw : c.we ≤ 1000) : Calls Try.prog 26 #[.pointer (some ⟨g, 0, none⟩), .int .i64 i] w (IntPost (rootsA c + c.ro + i) w) := by
  obtain ⟨p5, p6, p7, p8, p9, p10⟩ := lat_cells h
  obtain ⟨r, hr'⟩ : ∃ r, rootsA c = r := ⟨_, rfl⟩
  obtain ⟨n, hn⟩ : ∃ n, c.ro = n := ⟨_, rfl⟩
  obtain ⟨m, hm⟩ : ∃ m, c.we = m := ⟨_, rfl⟩
  rw [hr'] at p8 hb ⊢
  rw [hn] at p5 hr ⊢
  rw [hm] at p6 h1 hw
  have ke : ∀ W : World, (binOp .eql 31 (.pointer (some ⟨g, 0, none⟩)) (.pointer none)).run Try.prog W = .ok (.bool false) W := fun W => by rfl
  clear h p7 p9 p10 hr' hn hm
  go_enter Try.func26, Try.ntmps26
  go_wp2
  go_region
  all_goals
    go_wp2
    go_ret
    exact ⟨rfl, (Below.refl _ _).drew⟩
theorem log_any (g : Nat) (A : Option Addr) (k : Nat) (c : Cf) (w : World) (h : LAt w g A k c) (hb : 0 ≤ logA c ∧ logA c ≤ 1000000) (hr : 0 ≤ c.lg ∧ c.lg ≤ 5000) : Calls Try.prog 20 #[.pointer (some ⟨g, 0, none⟩)] w (TwoPost (logA c) (logA c + c.lg) w) := by
  obtain ⟨p5, p6, p7, p8, p9, p10⟩ := lat_cells h
  obtain ⟨r, hr'⟩ : ∃ r, logA c = r := ⟨_, rfl⟩
  obtain ⟨n, hn⟩ : ∃ n, c.lg = n := ⟨_, rfl⟩
  rw [hr'] at p10 hb ⊢
  rw [hn] at p7 hr ⊢
  have ke : ∀ W : World, (binOp .eql 31 (.pointer (some ⟨g, 0, none⟩)) (.pointer none)).run Try.prog W = .ok (.bool false) W := fun W => by rfl
  clear h p5 p6 p8 p9 hr' hn
  go_enter Try.func20, Try.ntmps20
  go_wp2
  go_region
  all_goals
    go_wp2
    go_ret2
    exact ⟨rfl, (Below.refl _ _).drew⟩
theorem bits_any (g : Nat) (A : Option Addr) (k : Nat) (ks : List (List Int)) (b0 b1 b2 b3 ro we lg b : Int) (w : World) (h : LAt w g A k ⟨ks, b0, b1, b2, b3, ro, we, lg⟩) (ha : Bd ⟨ks, b0, b1, b2, b3, ro, we, lg⟩) (hc : 0 ≤ cls ⟨ks, b0, b1, b2, b3, ro, we, lg⟩ b) (h0 : 0 ≤ b) (h1 : b ≤ 4096) (hb : 0 ≤ bitsA ⟨ks, b0, b1, b2, b3, ro, we, lg⟩ ∧ bitsA ⟨ks, b0, b1, b2, b3, ro, we, lg⟩ ≤ 1000000) :
    Calls Try.prog 24 #[.pointer (some ⟨g, 0, none⟩), .int .i64 b] w (IntPost (bitsA ⟨ks, b0, b1, b2, b3, ro, we, lg⟩ + b / 64) w) := by
  have HC := Lib.hid (class_any g A k ks b0 b1 b2 b3 ro we lg b w h ha)
  have HL := Lib.hid (fun (W : World) (hw : Below w.heap.size w W) => (lat_cells (h.below hw)).2.2.2.2.1)
  obtain ⟨K, hK⟩ : ∃ K, cls ⟨ks, b0, b1, b2, b3, ro, we, lg⟩ b = K := ⟨_, rfl⟩
  obtain ⟨r, hr⟩ : ∃ r, bitsA ⟨ks, b0, b1, b2, b3, ro, we, lg⟩ = r := ⟨_, rfl⟩
  rw [hK] at HC hc
  rw [hr] at HL hb ⊢
  have t1 : b.tdiv 64 = b / 64 := Int.tdiv_eq_ediv_of_nonneg h0
  have hq : 0 ≤ b / 64 ∧ b / 64 ≤ 64 := by omega
  obtain ⟨q, hq'⟩ : ∃ q, b / 64 = q := ⟨_, rfl⟩
  rw [hq'] at t1 hq ⊢
  clear h ha hK hr hq'
  go_enter Try.func24, Try.ntmps24
  go_wp2_with fail
  refine HC.out.mono ?_
  rintro e w1 ⟨rfl, hb1⟩
  have p9 := HL.out w1 hb1
  go_wp2
  go_ret
  exact ⟨rfl, hb1⟩
theorem size_any (g : Nat) (A : Option Addr) (k : Nat) (ks : List (List Int)) (b0 b1 b2 b3 ro we lg b : Int) (w : World) (h : LAt w g A k ⟨ks, b0, b1, b2, b3, ro, we, lg⟩) (ha : Bd ⟨ks, b0, b1, b2, b3, ro, we, lg⟩) (hc : 0 ≤ cls ⟨ks, b0, b1, b2, b3, ro, we, lg⟩ b) :
    Calls Try.prog 22 #[.pointer (some ⟨g, 0, none⟩), .int .i64 b] w (IntPost (sz (cls ⟨ks, b0, b1, b2, b3, ro, we, lg⟩ b)) w) := by
  have HC := Lib.hid (class_any g A k ks b0 b1 b2 b3 ro we lg b w h ha)
  have h3 : cls ⟨ks, b0, b1, b2, b3, ro, we, lg⟩ b ≤ 3 := by
    rcases cls_cases ⟨ks, b0, b1, b2, b3, ro, we, lg⟩ b with e | ⟨e, _⟩ | ⟨e, _⟩ | ⟨e, _⟩ | ⟨e, _⟩ <;> omega
  obtain ⟨K, hK⟩ : ∃ K, cls ⟨ks, b0, b1, b2, b3, ro, we, lg⟩ b = K := ⟨_, rfl⟩
  rw [hK] at HC hc h3 ⊢
  clear h ha hK
  go_enter Try.func22, Try.ntmps22
  go_wp2_with fail
  refine HC.out.mono ?_
  rintro e w1 ⟨rfl, hb1⟩
  go_wp2_with fail
  refine (Pl.size_any K w1 hc h3).mono ?_
  rintro e w2 ⟨rfl, rfl⟩
  go_wp2
  go_ret
  exact ⟨rfl, hb1⟩
end Go.Proofs.Ytlmlckidgfnhdaa.Sl
