/- closure.Fix and Entries by their contracts. -/
import Derived.Test.YtgkjhnilgmokiaaCo
import Derived.RegionTactic
import Derived.ChangeAlike
namespace Go.Proofs.Ytgkjhnilgmokiaa.Fx
open Go.RowKit Go.ChangeShapes Go.WideShapes Go.Proofs.YtgkjhnilgmokiaaW.PrintWords Go.Proofs.Ytgkjhnilgmokiaa.Ha Go.Proofs.Ytgkjhnilgmokiaa.Hp Go.Proofs.Ytgkjhnilgmokiaa.Cl Go.Proofs.Ytgkjhnilgmokiaa.Clo Go.Proofs.Ytgkjhnilgmokiaa.W8 Go.Proofs.Ytgkjhnilgmokiaa.Of Go.Proofs.Ytgkjhnilgmokiaa.Fo Go.Proofs.Ytgkjhnilgmokiaa.Aw Go.Proofs.Ytgkjhnilgmokiaa.Co
set_option linter.unusedVariables false
def agg5 (v : V5) : Value := .agg #[.int .i64 v.kd, .int .i64 v.n, .int .u64 v.re, .int .u64 v.im, .int .i64 v.ref]
theorem agg5_of {w w' : World} {r : Reach} {base : Nat} {v : Value} {x : V5} (h : Value.okWide Try.prog w r base 36 v) (hk : k5.K w' x v.cells.toList) : v = agg5 x := by
  obtain ⟨cs, rfl, _⟩ := okWide_struct Try.underlying36 h
  have e := k5_open hk
  have e' : cs.toList = x.cs := e
  have : cs = x.cs.toArray := by rw [← e']
  rw [this]
  rfl
/-- What Fix answers. -/
inductive Fxd (objs blocks : List Int) : V5 → V5 → Prop where
  | num (v : V5) (h : v.kd = 1) : Fxd objs blocks v ⟨1, v.n, 0, 0, 0⟩
  | cplx (v : V5) (h : v.kd = 2) : Fxd objs blocks v ⟨2, 0, v.re, v.im, 0⟩
  | other (v : V5) (h1 : v.kd ≠ 1) (h2 : v.kd ≠ 2) (h3 : v.kd ≠ 3) : Fxd objs blocks v ⟨v.kd, 0, 0, 0, 0⟩
  | found (v : V5) (h : v.kd = 3) (n : Nat) (hn : n < objs.length) (ho : objs.getD n 0 = v.ref) (hb : n < blocks.length) : Fxd objs blocks v ⟨3, 0, 0, 0, blocks.getD n 0⟩
  | gone (v : V5) (h : v.kd = 3) (hr : v.ref < 0) (hn : v.ref ∉ objs ∨ ∃ n, n < objs.length ∧ objs.getD n 0 = v.ref ∧ blocks.length ≤ n) : Fxd objs blocks v ⟨0, 0, 0, 0, 0⟩
  | kept (v : V5) (h : v.kd = 3) (hr : 0 ≤ v.ref) (hn : v.ref ∉ objs ∨ ∃ n, n < objs.length ∧ objs.getD n 0 = v.ref ∧ blocks.length ≤ n) : Fxd objs blocks v ⟨3, 0, 0, 0, v.ref⟩
def FxPost (objs blocks : List Int) (v : V5) (w : World) (e : Ending) (w' : World) : Prop := ∃ r, Fxd objs blocks v r ∧ e = .returned (agg5 r) ∧ Below w.heap.size w w'
set_option maxHeartbeats 2000000 in
theorem fix_any (v : V5) (A B : Option Addr) (c d : Nat) (objs blocks : List Int) (w : World) (ho : Rd w A objs) (hb : Rd w B blocks) (hl : objs.length ≤ 1000) (hl2 : blocks.length ≤ 1000) :
    Calls Try.prog 24 #[agg5 v, .slice A objs.length c, .slice B blocks.length d] w (FxPost objs blocks v w) := by
  obtain ⟨f0, f1, f2, f3, f4⟩ := v
  unfold agg5
  dsimp only
  have HO := Lib.hid ho
  have HB := Lib.hid hb
  clear ho hb
  have hz : ∀ w, (zeroValue 36).run Try.prog w = .ok (.agg #[.int .i64 0, .int .i64 0, .int .u64 0, .int .u64 0, .int .i64 0]) w := fun w => by kernel_rfl
  cases e1 : (f0 == 1)
  · cases e2 : (f0 == 2)
    · cases e3 : (f0 == 3)
      · have h1 := beq_eq_false_iff_ne.1 e1
        have h2 := beq_eq_false_iff_ne.1 e2
        have h3 := beq_eq_false_iff_ne.1 e3
        have HP : Hid (Fxd objs blocks ⟨f0, f1, f2, f3, f4⟩ ⟨f0, 0, 0, 0, 0⟩) := Lib.hid (.other _ h1 h2 h3)
        clear h1 h2 h3 hz
        go_enter Try.func24, Try.ntmps24
        go_wp2
        exact bodyPost_ret (v := agg5 ⟨f0, 0, 0, 0, 0⟩) (by simp [results, Try.results24, go_sem, agg5]) rfl ⟨_, HP.out, rfl, (((Below.refl _ _).alloc (Nat.le_refl _) _).alloc (by simp) _)⟩
      · obtain rfl : f0 = 3 := beq_iff_eq.1 e3
        have hbw : Below w.heap.size w ((w.alloc (.cells #[.int .i64 3, .int .i64 f1, .int .u64 f2, .int .u64 f3, .int .i64 f4] 36)).alloc (.cells #[.int .i64 0, .int .i64 0, .int .u64 0, .int .u64 0, .int .i64 0] 36)) :=
          ((Below.refl _ _).alloc (Nat.le_refl _) _).alloc (by simp) _
        have HO2 := Lib.hid (HO.out.below hbw.block)
        have HB2 := Lib.hid (HB.out.below hbw.block)
        have HW := Lib.hid hbw
        clear hbw
        go_enter Try.func24, Try.ntmps24
        go_wp2_with fail
        refine (index_any A c objs f4 _ (by omega) HO2.out).mono ?_
        rintro e w1 ⟨⟨i, rfl, hi⟩, rfl⟩
        have hcase : (∃ n : Nat, i = (n : Int) ∧ n < objs.length ∧ objs.getD n 0 = f4 ∧ n < blocks.length) ∨ ((i < 0 ∨ (blocks.length : Int) ≤ i) ∧ (f4 ∉ objs ∨ ∃ n, n < objs.length ∧ objs.getD n 0 = f4 ∧ blocks.length ≤ n)) := by
          rcases hi with ⟨rfl, hx⟩ | ⟨n, rfl, hn, hx⟩
          · exact .inr ⟨.inl (by omega), .inl hx⟩
          · by_cases hnb : n < blocks.length
            · exact .inl ⟨n, rfl, hn, hx, hnb⟩
            · exact .inr ⟨.inr (by omega), .inr ⟨n, hn, hx, by omega⟩⟩
        clear hi
        rcases hcase with ⟨n, rfl, hn, hx, hnb⟩ | ⟨hi, hno⟩
        · have HP : Hid (Fxd objs blocks ⟨3, f1, f2, f3, f4⟩ ⟨3, 0, 0, 0, blocks.getD n 0⟩) := Lib.hid (.found _ rfl n hn hx hnb)
          obtain ⟨ad, rfl, hc⟩ := HB2.out n hnb
          obtain ⟨y, hy⟩ : ∃ y, blocks.getD n 0 = y := ⟨_, rfl⟩
          rw [hy] at HP hc
          clear hx hy hz
          go_wp2
          go_region
          go_wp2
          exact bodyPost_ret (v := agg5 ⟨3, 0, 0, 0, y⟩) (by simp [results, Try.results24, go_sem, agg5]) rfl ⟨_, HP.out, rfl, (((Below.refl _ _).alloc (Nat.le_refl _) _).alloc (by simp) _).drew⟩
        · have hd : (decide ((0 : Int) ≤ i) && decide (i < (blocks.length : Int))) = false := by
            rcases hi with hi | hi
            · rw [decide_eq_false (by omega)]; rfl
            · rw [decide_eq_false (show ¬ i < (blocks.length : Int) by omega), Bool.and_false]
          by_cases hr : f4 < 0
          · have HP : Hid (Fxd objs blocks ⟨3, f1, f2, f3, f4⟩ ⟨0, 0, 0, 0, 0⟩) := Lib.hid (.gone _ rfl hr hno)
            clear hno
            rcases hi with hi | hi
            · go_wp2
              exact bodyPost_ret (v := agg5 ⟨0, 0, 0, 0, 0⟩) (by simp [results, Try.results24, go_sem, agg5]) rfl ⟨_, HP.out, rfl, (((Below.refl _ _).alloc (Nat.le_refl _) _).alloc (by simp) _)⟩
            · go_wp2
              exact bodyPost_ret (v := agg5 ⟨0, 0, 0, 0, 0⟩) (by simp [results, Try.results24, go_sem, agg5]) rfl ⟨_, HP.out, rfl, (((Below.refl _ _).alloc (Nat.le_refl _) _).alloc (by simp) _)⟩
          · have HP : Hid (Fxd objs blocks ⟨3, f1, f2, f3, f4⟩ ⟨3, 0, 0, 0, f4⟩) := Lib.hid (.kept _ rfl (by show 0 ≤ f4; omega) hno)
            clear hno
            rcases hi with hi | hi
            · go_wp2
              exact bodyPost_ret (v := agg5 ⟨3, 0, 0, 0, f4⟩) (by simp [results, Try.results24, go_sem, agg5]) rfl ⟨_, HP.out, rfl, (((Below.refl _ _).alloc (Nat.le_refl _) _).alloc (by simp) _)⟩
            · go_wp2
              exact bodyPost_ret (v := agg5 ⟨3, 0, 0, 0, f4⟩) (by simp [results, Try.results24, go_sem, agg5]) rfl ⟨_, HP.out, rfl, (((Below.refl _ _).alloc (Nat.le_refl _) _).alloc (by simp) _)⟩
    · obtain rfl : f0 = 2 := beq_iff_eq.1 e2
      have HP : Hid (Fxd objs blocks ⟨2, f1, f2, f3, f4⟩ ⟨2, 0, f2, f3, 0⟩) := Lib.hid (.cplx _ rfl)
      clear hz
      go_enter Try.func24, Try.ntmps24
      go_wp2
      exact bodyPost_ret (v := agg5 ⟨2, 0, f2, f3, 0⟩) (by simp [results, Try.results24, go_sem, agg5]) rfl ⟨_, HP.out, rfl, (((Below.refl _ _).alloc (Nat.le_refl _) _).alloc (by simp) _)⟩
  · obtain rfl : f0 = 1 := beq_iff_eq.1 e1
    have HP : Hid (Fxd objs blocks ⟨1, f1, f2, f3, f4⟩ ⟨1, f1, 0, 0, 0⟩) := Lib.hid (.num _ rfl)
    clear hz
    go_enter Try.func24, Try.ntmps24
    go_wp2
    exact bodyPost_ret (v := agg5 ⟨1, f1, 0, 0, 0⟩) (by simp [results, Try.results24, go_sem, agg5]) rfl ⟨_, HP.out, rfl, (((Below.refl _ _).alloc (Nat.le_refl _) _).alloc (by simp) _)⟩
end Go.Proofs.Ytgkjhnilgmokiaa.Fx
