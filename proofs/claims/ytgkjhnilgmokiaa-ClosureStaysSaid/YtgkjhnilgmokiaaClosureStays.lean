/-
  closure.Fix changes no value that names no volatile object, and fixed twice is fixed once; conditions: those of the statement.
-/
import Derived.Test.YtgkjhnilgmokiaaRows
import Derived.WalkKit
import Derived.WalkSpells
import Derived.WalkLawsBesides
import Derived.WalkMore
import Derived.ProofKit
import Derived.OpenShut
import Derived.ShutString
import Derived.ChangeOld
import Derived.Below
import Derived.SizedLaws
import Derived.Lib.Hide
import Derived.Test.YtgkjhnilgmokiaaOpen
import Derived.Test.YtgkjhnilgmokiaaFx
namespace Go.Proofs.Ytgkjhnilgmokiaa.closureStays
open Go.RowKit Go.ChangeShapes Go.WideShapes Go.ChangeAt Go.Proofs.YtgkjhnilgmokiaaW.PrintWords
set_option linter.unusedVariables false
open Ha Hp Cl Clo W8 Of Fo Aw Co Fx
def bl (n : Nat) : List Int := (List.range n).map fun j : Nat => 200 + (j : Int)
theorem bl_len (n : Nat) : (bl n).length = n := by simp [bl]
theorem bl_snoc (n : Nat) : bl (n + 1) = bl n ++ [200 + (n : Int)] := by simp [bl, List.range_succ]
theorem bl_get (n i : Nat) (h : i < n) : (bl n).getD i 0 = 200 + (i : Int) := by simp [bl, h]
theorem own_bl {w : World} {B k : Nat} {v : Value} (h : w.ownsRow B 3 1 v k ((bl k).map (Value.int .i64))) : w.ownsRow B 3 1 v (bl k).length ((bl k).map (Value.int .i64)) := by rw [bl_len]; exact h
/-- A boxed value. -/
def Bx (w : World) (g : Nat) (x : V5) : Prop := w.heap[g]? = some (.cells #[.int .i64 x.kd, .int .i64 x.n, .int .u64 x.re, .int .u64 x.im, .int .i64 x.ref] 36 (0, 0))
theorem Bx.cells {w : World} {g : Nat} {a b c d e : Int} (h : Bx w g ⟨a, b, c, d, e⟩) : w.cell? ⟨g, 0, none⟩ = some (.int .i64 a) ∧ w.cell? ⟨g, 1, none⟩ = some (.int .i64 b) ∧ w.cell? ⟨g, 2, none⟩ = some (.int .u64 c) ∧ w.cell? ⟨g, 3, none⟩ = some (.int .u64 d) ∧ w.cell? ⟨g, 4, none⟩ = some (.int .i64 e) := by
  refine ⟨?_, ?_, ?_, ?_, ?_⟩ <;> (rw [cell_of_row w g _ _ 36 (0, 0) h]; rfl)
theorem Bx.below {w w' : World} {B g : Nat} {x : V5} (h : Bx w g x) (hb : Below B w w') (hg : g < B) : Bx w' g x := (hb.block g hg).trans h
/-- What the first Fix leaves of a value, and the second. -/
theorem stays {objs : List Int} {v r s : V5} (hn : ∀ j, j < objs.length → objs.getD j 0 < 0) (h0 : 0 ≤ v.kd) (h3 : v.kd ≤ 3) (h : Fxd objs (bl objs.length) v r) (h' : Fxd objs (bl objs.length) r s) :
    s = r ∧ ((v.kd = 1 ∧ r = ⟨1, v.n, 0, 0, 0⟩) ∨ (v.kd = 2 ∧ r = ⟨2, 0, v.re, v.im, 0⟩) ∨ (v.kd = 0 ∧ r = ⟨0, 0, 0, 0, 0⟩) ∨ (v.kd = 3 ∧ v.ref < 0 ∧ ∃ i : Nat, i ≤ objs.length ∧ r = ⟨3, 0, 0, 0, 200 + (i : Int)⟩) ∨ (v.kd = 3 ∧ v.ref < 0 ∧ r = ⟨0, 0, 0, 0, 0⟩) ∨
      (v.kd = 3 ∧ 0 ≤ v.ref ∧ r = ⟨3, 0, 0, 0, v.ref⟩)) := by
  have key3 : ∀ (e : Int) (t : V5), 0 ≤ e → Fxd objs (bl objs.length) ⟨3, 0, 0, 0, e⟩ t → t = ⟨3, 0, 0, 0, e⟩ := by
    intro x t k2 hx
    generalize hv : (⟨3, 0, 0, 0, x⟩ : V5) = y at hx
    cases hx with
    | num h => subst hv; simp at h
    | cplx h => subst hv; simp at h
    | other h1 h2 h3 => subst hv; simp at h3
    | found h n hn' ho hb =>
      subst hv
      have := hn n hn'
      rw [ho] at this
      dsimp only at this
      omega
    | gone h hr _ => subst hv; dsimp only at hr; omega
    | kept h hr _ => subst hv; rfl
  have key : ∀ (x t : V5), x.kd ≠ 3 → x.ref = 0 → (x.kd = 1 → x.re = 0 ∧ x.im = 0) → (x.kd = 2 → x.n = 0) → (x.kd ≠ 1 → x.kd ≠ 2 → x.n = 0 ∧ x.re = 0 ∧ x.im = 0) → Fxd objs (bl objs.length) x t → t = x := by
    intro x t k1 k2 k3 k4 k5 hx
    obtain ⟨a, b, c, d, e⟩ := x
    dsimp only at k1 k2 k3 k4 k5
    generalize hv : (⟨a, b, c, d, e⟩ : V5) = y at hx
    cases hx with
    | num h => subst hv; dsimp only at h ⊢; obtain ⟨rfl, rfl⟩ := k3 h; rw [h, k2]
    | cplx h => subst hv; dsimp only at h ⊢; rw [h, k2, k4 h]
    | other h1 h2 h3 => subst hv; dsimp only at h1 h2 ⊢; obtain ⟨rfl, rfl, rfl⟩ := k5 h1 h2; rw [k2]
    | found h => subst hv; exact absurd h k1
    | gone h => subst hv; exact absurd h k1
    | kept h => subst hv; exact absurd h k1
  cases h with
  | num h => exact ⟨key _ _ (by simp) rfl (by simp) (by simp) (by simp) h', .inl ⟨h, rfl⟩⟩
  | cplx h => exact ⟨key _ _ (by simp) rfl (by simp) (by simp) (by simp) h', .inr (.inl ⟨h, rfl⟩)⟩
  | other h1 h2 h3' =>
    have hk : v.kd = 0 := by omega
    rw [hk] at h' ⊢
    exact ⟨key _ _ (by simp) rfl (by simp) (by simp) (by simp) h', .inr (.inr (.inl ⟨rfl, rfl⟩))⟩
  | found h n hn' ho hb =>
    rw [bl_get _ _ hn'] at h' ⊢
    have h5 := hn n hn'
    rw [ho] at h5
    exact ⟨key3 _ _ (by omega) h', .inr (.inr (.inr (.inl ⟨h, h5, n, by omega, rfl⟩)))⟩
  | gone h hr _ => exact ⟨key _ _ (by simp) rfl (by simp) (by simp) (by simp) h', .inr (.inr (.inr (.inr (.inl ⟨h, hr, rfl⟩))))⟩
  | kept h hr _ => exact ⟨key3 _ _ hr h', .inr (.inr (.inr (.inr (.inr ⟨h, hr, rfl⟩))))⟩
set_option maxHeartbeats 16000000 in
set_option maxRecDepth 20000 in
theorem walk (w : World) (x0 : W8.V5) (hk0 : W8.k5.K w x0 (Fx.agg5 x0).cells.toList) (ok0 : W8.ok5 x0) (A1 : Option Addr) (c1 : Nat) (x1 : List Int) (hc1 : x1.length ≤ c1) (hr1 : Kd.C (Kd.int .i64) w A1 x1.length x1) (ok1 : x1.length ≤ maxLen ∧ ∀ y ∈ x1, (Lit.int .i64 y).wf = true) :
    Calls Try.prog 7 #[Fx.agg5 x0, .slice A1 x1.length c1] w fun e w' => e = .returned (.bool true) ∧ Below w.heap.size w w' := by
  have HR1 := Lib.hid hr1
  have hm1 := Kd.C_max hr1
  clear hk0 ok0 ok1 hr1
  obtain ⟨f0, f1, f2, f3, f4⟩ := x0
  unfold agg5
  dsimp only
  have hb0 := (Below.refl w.heap.size w).alloc (Nat.le_refl _) (.cells #[.int .i64 f0, .int .i64 f1, .int .u64 f2, .int .u64 f3, .int .i64 f4] 36)
  have hcase : 60 < x1.length ∨ (x1.length ≤ 60 ∧ f0 < 0) ∨ (x1.length ≤ 60 ∧ 3 < f0) ∨ (x1.length ≤ 60 ∧ 0 ≤ f0 ∧ f0 ≤ 3) := by omega
  rcases hcase with h | ⟨h1, h2⟩ | ⟨h1, h2⟩ | ⟨h1, h2, h3⟩
  · go_enter Try.func7, Try.ntmps7
    go_wp2_with fail
    refine (Aw.awake_any _).mono ?_
    rintro e w1 ⟨rfl, hb⟩
    have hb := hb0.trans (hb.mono hb0.size)
    clear hb0
    go_wp2
    go_ret
    exact ⟨rfl, hb⟩
  · go_enter Try.func7, Try.ntmps7
    go_wp2_with fail
    refine (Aw.awake_any _).mono ?_
    rintro e w1 ⟨rfl, hb⟩
    have hb := hb0.trans (hb.mono hb0.size)
    clear hb0
    go_wp2
    go_ret
    exact ⟨rfl, hb⟩
  · go_enter Try.func7, Try.ntmps7
    go_wp2_with fail
    refine (Aw.awake_any _).mono ?_
    rintro e w1 ⟨rfl, hb⟩
    have hb := hb0.trans (hb.mono hb0.size)
    clear hb0
    go_wp2
    go_ret
    exact ⟨rfl, hb⟩
  have HB0 := Lib.hid hb0
  clear hb0
  have hn3 : ¬ 3 < f0 := by omega
  go_enter Try.func7, Try.ntmps7
  go_wp2
  have hsz0 := HB0.out.size
  go_loopw [5, 26] (fun v i wr => ∃ k : Nat, k ≤ x1.length ∧ i = .int .i64 (k : Int) ∧ (∀ j, j < k → x1.getD j 0 < 0) ∧ wr.ownsRow (w.heap.size + 1) 3 1 v k ((bl k).map (Value.int .i64)) ∧ Below (w.heap.size + 1) (w.alloc (.cells #[.int .i64 f0, .int .i64 f1, .int .u64 f2, .int .u64 f3, .int .i64 f4] 36)) wr) (fun _ i _ => x1.length - (intOf i).toNat)
  case atStart => exact ⟨0, by omega, rfl, fun j hj => by omega, own_nil _ _ _ _, Below.refl _ _⟩
  case round =>
    obtain ⟨k, hk, rfl, hno, ho, hb⟩ := hrel
    have HN := Lib.hid hno
    have hsz : w.heap.size + 1 ≤ wr.heap.size := by have := hb.size; rw [size_al] at this; exact this
    have hbw := HB0.out.trans (hb.mono (by omega))
    clear hno
    by_cases hlt : k < x1.length
    · obtain ⟨ad, rfl, hc⟩ := (rd_C (Kd.C_below HR1.out hbw)) k hlt
      have HK : Hid ((x1.getD k 0 < 0) → ∀ j, j < k + 1 → x1.getD j 0 < 0) := Lib.hid (fun h j hj => by
        by_cases e : j = k
        · subst e; exact h
        · exact HN.out j (by omega))
      obtain ⟨y, hy⟩ : ∃ y, x1.getD k 0 = y := ⟨_, rfl⟩
      rw [hy] at hc HK
      clear hy
      by_cases hy0 : 0 ≤ y
      · go_wp2_with fail
        refine (Aw.awake_any _).mono ?_
        rintro e w1 ⟨rfl, hb1⟩
        have hb := hbw.trans (hb1.mono hbw.size)
        clear hbw hb1
        go_wp2
        go_ret
        exact ⟨rfl, hb⟩
      · have hK := Lib.hid (HK.out (by omega))
        have ho' := own_bl ho
        have HO := Lib.hid ho'
        have hbl := bl_len k
        have HSN := Lib.hid (bl_snoc k)
        obtain ⟨L, hL⟩ : ∃ L, bl k = L := ⟨_, rfl⟩
        rw [hL] at hbl HO HSN
        have hll : L.length ≤ 60 := by omega
        have HBL := Lib.hid hbl
        clear ho ho' hL HK hbl
        go_wp2_with (at_builtin; refine print_append_num (P := Try.prog) (w0 := w.alloc (.cells #[.int .i64 f0, .int .i64 f1, .int .u64 f2, .int .u64 f3, .int .i64 f4] 36)) (w.heap.size + 1) rfl (.tmp 34) (.tmp 37) 27 3 .i64 8 rfl Try.underlying27 info3' (by omega) _ L (200 + (k : Int)) rfl rfl HO.out hb hsz ?c1 ?_)
        case c1 => omega
        intro v1 w1 ho2 hb2 _ _
        rw [← HSN.out, HBL.out] at ho2
        have HO2 := Lib.hid ho2
        clear ho2
        go_wp2
        go_roundw
        case rel => exact ⟨k + 1, by omega, by go_num, hK.out, HO2.out, hb2⟩
        case measure => simp [intOf]; omega
    · obtain rfl : k = x1.length := by omega
      have HX0 : Hid (Bx (w.alloc (.cells #[.int .i64 f0, .int .i64 f1, .int .u64 f2, .int .u64 f3, .int .i64 f4] 36)) w.heap.size ⟨f0, f1, f2, f3, f4⟩) := Lib.hid (heap_alloc_new w _)
      have hx1 := HX0.out.below hb (by omega)
      have HX1 := Lib.hid hx1
      obtain ⟨p0, p1, p2, p3, p4⟩ := hx1.cells
      obtain ⟨A5, c5, rfl, hr5⟩ := (own_rd (own_bl ho)).2
      have hbl := bl_len x1.length
      have HRb := Lib.hid hr5
      have HRo := Lib.hid (rd_C (Kd.C_below HR1.out hbw))
      have HST := Lib.hid (fun r s => stays (objs := x1) (v := ⟨f0, f1, f2, f3, f4⟩) (r := r) (s := s) HN.out h2 h3)
      obtain ⟨L, hL⟩ : ∃ L, bl x1.length = L := ⟨_, rfl⟩
      rw [hL] at hbl HRb HST ⊢
      have hll : L.length ≤ 60 := by omega
      obtain ⟨wq, rfl⟩ : ∃ wq : World, wq = wr := ⟨_, rfl⟩
      clear ho hb hr5 hx1 hL HN hbl
      go_wp2_with fail
      refine (fix_any ⟨f0, f1, f2, f3, f4⟩ A1 A5 c1 c5 x1 L wq HRo.out HRb.out (by omega) (by omega)).mono ?_
      rintro e w1 ⟨r, hfr, rfl, hb1⟩
      obtain ⟨r0, r1, r2, r3, r4⟩ := r
      have HFR := Lib.hid hfr
      have hb1' := (hb1.alloc hb1.size (.cells #[.int .i64 r0, .int .i64 r1, .int .u64 r2, .int .u64 r3, .int .i64 r4] 36))
      have HB1 := Lib.hid hb1'
      have hbw1 := hbw.trans (hb1'.mono (by omega))
      have HRo1 := Lib.hid (HRo.out.below hb1'.block)
      have HRb1 := Lib.hid (HRb.out.below hb1'.block)
      have hq1 : w.heap.size + 1 ≤ w1.heap.size := by have := hb1.size; omega
      have HQ1 := Lib.hid (show w.heap.size + 1 ≤ (w1.alloc (.cells #[.int .i64 r0, .int .i64 r1, .int .u64 r2, .int .u64 r3, .int .i64 r4] 36)).heap.size by rw [size_al]; omega)
      have HX2 := Lib.hid (HX1.out.below hb1' (by omega))
      have HY2 : Hid (Bx (w1.alloc (.cells #[.int .i64 r0, .int .i64 r1, .int .u64 r2, .int .u64 r3, .int .i64 r4] 36)) w1.heap.size ⟨r0, r1, r2, r3, r4⟩) := Lib.hid (heap_alloc_new w1 _)
      clear hfr hb1 hb1' p0 p1 p2 p3 p4 hbw
      unfold agg5
      dsimp only
      go_wp2_with fail
      refine (fix_any ⟨r0, r1, r2, r3, r4⟩ A1 A5 c1 c5 x1 L _ HRo1.out HRb1.out (by omega) (by omega)).mono ?_
      rintro e w2 ⟨s, hfs, rfl, hb2⟩
      obtain ⟨rfl, hr⟩ := HST.out _ _ HFR.out hfs
      have hq2 : w.heap.size + 1 ≤ w2.heap.size := by have := hb2.size; rw [size_al] at this; omega
      have hq3 : w1.heap.size < w2.heap.size := by have := hb2.size; rw [size_al] at this; omega
      have hq4 : w.heap.size < w2.heap.size := by omega
      have hx3 := HX2.out.below hb2 (by have := HQ1.out; omega)
      have hy3 := HY2.out.below hb2 (by rw [size_al]; omega)
      have hbw2 := hbw1.trans (hb2.mono hbw1.size)
      have hbw3 := hbw2.alloc hbw2.size (.cells #[.int .i64 r0, .int .i64 r1, .int .u64 r2, .int .u64 r3, .int .i64 r4] 36)
      have HB3 := Lib.hid hbw3
      obtain ⟨p0, p1, p2, p3, p4⟩ := hx3.cells
      obtain ⟨y0, y1, y2, y3, y4⟩ := hy3.cells
      clear hfs hx3 hy3 hbw1 hbw2 hbw3 HX1 HX2 HY2 HRo HRb HRo1 HRb1 HFR HST hb2
      unfold agg5
      dsimp only at hr ⊢
      have cne : ∀ z : Int, (z != z) = false := fun z => by rw [bne_eq_false_iff_eq]
      have ceq : ∀ z : Int, (z == z) = true := fun z => by rw [beq_iff_eq]
      rcases hr with ⟨rfl, hr⟩ | ⟨rfl, hr⟩ | ⟨rfl, hr⟩ | ⟨rfl, hr1, i, hi, hr⟩ | ⟨rfl, hr1, hr⟩ | ⟨rfl, hr1, hr⟩
      all_goals
        injection hr with a0 a1 a2 a3 a4
        subst a0 a1 a2 a3 a4
      all_goals
        go_wp2_with fail
        refine (Aw.awake_any _).mono ?_
        rintro e w1 ⟨rfl, hb⟩
        have hb := HB3.out.trans (hb.mono HB3.out.size)
        clear HB3
        go_wp2
        go_ret
        exact ⟨rfl, hb⟩

theorem own : ownKnob Try.prog.godebug = none := by kernel_rfl
theorem laidOut : laidOutB Try.prog = true := by kernel_rfl
set_option maxRecDepth 100000 in
theorem lifted (os : Os) (started : os.Started) (H : Type) (enc : TypeId × Value → H) :
    ReturnsInHanded {} Try.checked os 7 .any (Rows.closureStaysSpec.pre6 enc Try.prog Try.f7 Rows.closureStaysRow.domain false) (Rows.closureStaysSpec.post enc Try.prog Try.f7 false true false false) := by
  refine returnsInHanded_of_change (C := Try.checked) own started (by kernel_rfl) Try.func7
    (ChangeSpec.witness6 (enc := enc) (C := Try.checked) false ⟨#[], #[.agg #[.int .i64 0, .int .i64 0, .int .u64 0, .int .u64 0, .int .i64 0], .slice none 0 0], []⟩ 8 (by kernel_rfl) (by kernel_rfl) (by kernel_rfl) (by kernel_rfl)) ?_
  intro W base args ds gs before hval0 hW hcnd _
  have hval : ∀ (j : Nat) t v, Try.f7.params[j]? = some t → args[j]? = some v → Value.okWide Try.prog W .any base t v := hval0
  have hW' := hW
  obtain ⟨p, q, hA0, hV, rfl, hfz, hnd⟩ := hW
  have hA : DataW.TrodAll enc Try.prog W 0 (fun _ => true) true Try.f7.params.toList args.toList ds p := hA0
  rw [Try.params7] at hA hval
  obtain ⟨v0, vs0, d0, ds0, p0, q0, hargs, rfl, rfl, h0, r0⟩ := trodAll_cons hA
  obtain ⟨v1, vs1, d1, ds1, p1, q1, rfl, rfl, rfl, h1, r1⟩ := trodAll_cons r0
  obtain ⟨rfl, rfl, rfl⟩ := trodAll_nil r1
  obtain rfl : args = #[v0, v1] := by cases args; simp_all
  obtain ⟨rfl, rfl⟩ := trodVars_none hV
  have k0 := h0
  have lt0 : ∀ x ∈ p0, x.block < W.heap.size := by obtain ⟨m, hm⟩ := k0; exact DataW.trod_lt m _ _ _ hm
  obtain ⟨fuel0, hf0⟩ := h0
  obtain ⟨x0, hk0, ok0⟩ := (W8.opens_v5) H enc W 0 _ _ _ _ _ hf0
  obtain rfl : v0 = Fx.agg5 x0 := Fx.agg5_of (hval 0 36 v0 rfl rfl) hk0
  obtain ⟨a1, len1, cap1, rfl⟩ := okWide_slice Try.underlying27 (hval 1 27 v1 rfl rfl)
  have k1 := h1
  have lt1 : ∀ x ∈ p1, x.block < W.heap.size := by obtain ⟨m, hm⟩ := k1; exact DataW.trod_lt m _ _ _ hm
  obtain ⟨fuel1, hf1⟩ := h1
  obtain ⟨x1, ⟨A1, c1, e1, hc1, hr1⟩, ok1⟩ := Op.opens_slice (n := 3) Try.underlying27 (by kernel_rfl) (Op.opens_int Try.underlying3) H enc W 0 _ _ _ _ _ hf1
  obtain ⟨rfl, rfl, rfl⟩ : a1 = A1 ∧ len1 = x1.length ∧ cap1 = c1 := by simpa [Value.cells] using e1
  clear hA0 hval0
  refine (walk W x0 hk0 ok0 _ _ x1 hc1 hr1 ok1).mono fun e W' ⟨he, bel⟩ => ?_
  subst he
  exact ⟨_, rfl, _, _, _, [], _, [], hW', trodAll_mk1 (shut_bool Try.underlying4 _), (trodAll_cons_mk (Below.trod laidOut (by kernel_rfl) (of_decide_eq_true (by kernel_rfl)) k0 bel lt0) (trodAll_cons_mk (Below.trod laidOut (by kernel_rfl) (of_decide_eq_true (by kernel_rfl)) k1 bel lt1) trodAll_mk0)), rfl, bel.frame _, fun h => by cases h⟩
theorem over : Rows.closureStaysRow.holds Try.pinned (OpenSpec.ofChange Rows.closureStaysSpec) :=
  OpenClaim.holds_of_wide 7 Try.f7 rfl rfl rfl rfl rfl rfl rfl ⟨rfl, rfl, rfl, rfl, rfl⟩ rfl rfl rfl rfl rfl (by kernel_rfl) Try.func7 (by kernel_rfl)
    (of_decide_eq_true (by kernel_rfl)) (by unfold Func.isWrapper; first | (rw [if_pos (by decide +kernel)]; kernel_rfl) | (rw [if_neg (by decide +kernel)]; exact ⟨rfl, rfl⟩))
    (fun os started H enc _ => lifted os started H enc)
theorem proved : Rows.ClosureStaysSaid := over
#print axioms proved
end Go.Proofs.Ytgkjhnilgmokiaa.closureStays
