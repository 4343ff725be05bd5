/-
  A field's words as a value (value.Of, the reference's ValueOf).
-/
import Derived.Test.YtacfddlclbelmaaDoorVb
import Derived.Deep.RegionLaw
import Derived.Deep.DeepMust
namespace Go.Proofs.YtacfddlclbelmaaDoor.Vc
open Go.RowKit Go.ChangeShapes Go.WideShapes Go.Proofs.YtacfddlclbelmaaDoorW.PrintWords Go.Proofs.YtacfddlclbelmaaDoor.Ba Go.Proofs.YtacfddlclbelmaaDoor.Va Go.Proofs.YtacfddlclbelmaaDoor.Vb
set_option linter.unusedVariables false
set_option linter.unusedSimpArgs false
set_option maxRecDepth 100000
set_option maxHeartbeats 8000000
def ofV (kind : Int) (l : List Int) : Option V5 :=
  if kind = 1 ∧ l.length = 1 then some ⟨1, wrap64 (l.getD 0 0), 0, 0, 0⟩
  else if kind = 2 ∧ l.length = 2 then some ⟨2, 0, l.getD 0 0, l.getD 1 0, 0⟩
  else if kind = 3 ∧ l.length = 1 ∧ l.getD 0 0 = 0 then some z5
  else if kind = 3 ∧ l.length = 1 ∧ l.getD 0 0 ≤ 1099511627777 then some ⟨3, 0, 0, 0, l.getD 0 0 - 1⟩ else none
def OPost (kind : Int) (l : List Int) (w : World) (e : Ending) (w' : World) : Prop :=
  e = .returned (.tuple #[agg5 ((ofV kind l).getD z5), .bool (ofV kind l).isSome]) ∧ Below w.heap.size w w'
theorem ru_at {w : World} {A : Option Addr} {l : List Int} (h : RU w A l) (h0 : 0 < l.length) : ∃ ad : Addr, A = some ⟨ad.block, ad.off, none⟩ ∧ ∀ i, i < l.length → w.cell? ⟨ad.block, ad.off + i, none⟩ = some (.int .u64 (l.getD i 0)) := by
  obtain ⟨ad, e, h1⟩ := h 0 h0
  have hs : (ad.add 0).spot = none := World.cell?_spot h1
  obtain ⟨b, o, s⟩ := ad
  have hs' : s = none := by simpa [Addr.add] using hs
  subst hs'
  refine ⟨⟨b, o, none⟩, e, fun i hi => ?_⟩
  obtain ⟨ad', e', h2⟩ := h i hi
  rw [e] at e'
  obtain rfl := Option.some.inj e'
  rw [add_at] at h2
  exact h2
theorem toint31 (a : Int) (w : World) : Calls Tryd.prog 31 #[.int .u64 a] w fun e w' => e = .returned (.int .i64 (wrap64 a)) ∧ w = w' := by
  go_enter Tryd.func31, Tryd.ntmps31
  go_wp2
  go_ret
  exact ⟨rfl, rfl⟩
theorem set5 {w : World} {g : Nat} {x : V5} (h : Bx5 w g x) (a b : Int) (hg : g < w.heap.size) :
    Bx5 (((((w.setCell ⟨g, 0, none⟩ (.int .i64 2)).setCell ⟨g, 1, none⟩ (.int .i64 0)).setCell ⟨g, 2, none⟩ (.int .u64 a)).setCell ⟨g, 3, none⟩ (.int .u64 b)).setCell ⟨g, 4, none⟩ (.int .i64 0)).drew g ⟨2, 0, a, b, 0⟩ ∧
    Below g w (((((w.setCell ⟨g, 0, none⟩ (.int .i64 2)).setCell ⟨g, 1, none⟩ (.int .i64 0)).setCell ⟨g, 2, none⟩ (.int .u64 a)).setCell ⟨g, 3, none⟩ (.int .u64 b)).setCell ⟨g, 4, none⟩ (.int .i64 0)).drew := by
  obtain ⟨w2, h1, h2, h3⟩ := store5 h ⟨2, 0, a, b, 0⟩
  have e : ((((w.setCell ⟨g, 0, none⟩ (.int .i64 2)).setCell ⟨g, 1, none⟩ (.int .i64 0)).setCell ⟨g, 2, none⟩ (.int .u64 a)).setCell ⟨g, 3, none⟩ (.int .u64 b)).setCell ⟨g, 4, none⟩ (.int .i64 0) = w2 := h1
  rw [e]
  exact ⟨h2, (below_of_grown h3 (Nat.le_refl _) (by omega)).drew⟩
theorem set5b {w : World} {g : Nat} {x : V5} (h : Bx5 w g x) (a b : Int) (hg : g < w.heap.size) :
    Bx5 (((((w.setCell ⟨g, 0, none⟩ (.int .i64 2)).setCell ⟨g, 1, none⟩ (.int .i64 0)).setCell ⟨g, 2, none⟩ (.int .u64 a)).setCell ⟨g, 3, none⟩ (.int .u64 b)).setCell ⟨g, 4, none⟩ (.int .i64 0)) g ⟨2, 0, a, b, 0⟩ ∧
    Below g w (((((w.setCell ⟨g, 0, none⟩ (.int .i64 2)).setCell ⟨g, 1, none⟩ (.int .i64 0)).setCell ⟨g, 2, none⟩ (.int .u64 a)).setCell ⟨g, 3, none⟩ (.int .u64 b)).setCell ⟨g, 4, none⟩ (.int .i64 0)) := by
  obtain ⟨w2, h1, h2, h3⟩ := store5 h ⟨2, 0, a, b, 0⟩
  have e : ((((w.setCell ⟨g, 0, none⟩ (.int .i64 2)).setCell ⟨g, 1, none⟩ (.int .i64 0)).setCell ⟨g, 2, none⟩ (.int .u64 a)).setCell ⟨g, 3, none⟩ (.int .u64 b)).setCell ⟨g, 4, none⟩ (.int .i64 0) = w2 := h1
  rw [e]
  exact ⟨h2, below_of_grown h3 (Nat.le_refl _) (by omega)⟩
theorem complex_ag (x y : Nat) (w : World) : Calls Tryd.prog 18 #[.complex .f64 x y] w fun e w' => e = .returned (.agg #[.int .i64 2, .int .i64 0, .int .u64 (x : Int), .int .u64 (y : Int), .int .i64 0]) ∧ Below w.heap.size w w' := complex_any x y w
theorem bx_al (w : World) : Bx5 (w.alloc (.cells #[.int .i64 0, .int .i64 0, .int .u64 0, .int .u64 0, .int .i64 0] 24)) w.heap.size z5 := heap_alloc_new w _
theorem of_any (kind : Int) (A : Option Addr) (c : Nat) (l : List Int) (w : World) (hr : RU w A l) (hw : ∀ x ∈ l, 0 ≤ x ∧ x < 18446744073709551616) : Calls Tryd.prog 12 #[.int .i64 kind, .slice A l.length c] w (OPost kind l w) := by
  have hz := hz24'
  obtain ⟨o, ho⟩ : ∃ o, ofV kind l = o := ⟨_, rfl⟩
  unfold OPost
  rw [ho]
  unfold ofV at ho
  have HX0 := Lib.hid (bx_al w)
  have HB0 := Lib.hid (bel_one w (.cells #[.int .i64 0, .int .i64 0, .int .u64 0, .int .u64 0, .int .i64 0] 24))
  obtain ⟨w0, hw0⟩ : ∃ w0, w.alloc (.cells #[.int .i64 0, .int .i64 0, .int .u64 0, .int .u64 0, .int .i64 0] 24) = w0 := ⟨_, rfl⟩
  rw [hw0] at HX0 HB0
  have HR := Lib.hid (hr.below HB0.out)
  clear hr
  rcases l with _ | ⟨a, _ | ⟨b, _ | ⟨d, t⟩⟩⟩
  · skip
    by_cases k1 : kind = 1
    · subst k1
      obtain rfl : none = o := by rw [← ho]; simp
      clear ho
      obtain ⟨w2, h1, h2, h3⟩ := store5 HX0.out ⟨0, 0, 0, 0, 0⟩
      have H1 := Lib.hid h1
      have H2 := Lib.hid h2
      have HB := Lib.hid (HB0.out.trans (below_of_grown h3 (Nat.le_refl _) HB0.out.size))
      clear h1 h2 h3
      go_enter Tryd.func12, Tryd.ntmps12
      go_wp2_with (refine store_named (P := Tryd.prog) rfl 24 (.tmp 4) (.tmp 70) rfl w.heap.size 0 #[.int .i64 0, .int .i64 0, .int .u64 0, .int .u64 0, .int .i64 0] rfl rfl (there5 HX0.out) infoV (one5 _ _ _ _ _) H1.out ?_)
      (try simp only [Exit.inBlock, Exit.then])
      refine bodyPost_ret (results_ct rfl _ _ w.heap.size 24 _ (0, 0) _ rfl H2.out Tryd.underlying24 rfl infoV) rfl ?_
      exact ⟨rfl, HB.out⟩
    · by_cases k2 : kind = 2
      · subst k2
        obtain rfl : none = o := by rw [← ho]; simp
        clear ho
        obtain ⟨w2, h1, h2, h3⟩ := store5 HX0.out ⟨0, 0, 0, 0, 0⟩
        have H1 := Lib.hid h1
        have H2 := Lib.hid h2
        have HB := Lib.hid (HB0.out.trans (below_of_grown h3 (Nat.le_refl _) HB0.out.size))
        clear h1 h2 h3
        go_enter Tryd.func12, Tryd.ntmps12
        go_wp2_with (refine store_named (P := Tryd.prog) rfl 24 (.tmp 4) (.tmp 70) rfl w.heap.size 0 #[.int .i64 0, .int .i64 0, .int .u64 0, .int .u64 0, .int .i64 0] rfl rfl (there5 HX0.out) infoV (one5 _ _ _ _ _) H1.out ?_)
        (try simp only [Exit.inBlock, Exit.then])
        refine bodyPost_ret (results_ct rfl _ _ w.heap.size 24 _ (0, 0) _ rfl H2.out Tryd.underlying24 rfl infoV) rfl ?_
        exact ⟨rfl, HB.out⟩
      · by_cases k3 : kind = 3
        · subst k3
          obtain rfl : none = o := by rw [← ho]; simp
          clear ho
          obtain ⟨w2, h1, h2, h3⟩ := store5 HX0.out ⟨0, 0, 0, 0, 0⟩
          have H1 := Lib.hid h1
          have H2 := Lib.hid h2
          have HB := Lib.hid (HB0.out.trans (below_of_grown h3 (Nat.le_refl _) HB0.out.size))
          clear h1 h2 h3
          go_enter Tryd.func12, Tryd.ntmps12
          go_wp2_with (refine store_named (P := Tryd.prog) rfl 24 (.tmp 4) (.tmp 70) rfl w.heap.size 0 #[.int .i64 0, .int .i64 0, .int .u64 0, .int .u64 0, .int .i64 0] rfl rfl (there5 HX0.out) infoV (one5 _ _ _ _ _) H1.out ?_)
          (try simp only [Exit.inBlock, Exit.then])
          refine bodyPost_ret (results_ct rfl _ _ w.heap.size 24 _ (0, 0) _ rfl H2.out Tryd.underlying24 rfl infoV) rfl ?_
          exact ⟨rfl, HB.out⟩
        · have q1 : (kind == 1) = false := by rw [beq_eq_false_iff_ne]; exact k1
          have q2 : (kind == 2) = false := by rw [beq_eq_false_iff_ne]; exact k2
          have q3 : (kind == 3) = false := by rw [beq_eq_false_iff_ne]; exact k3
          obtain rfl : none = o := by rw [← ho]; simp [k1, k2, k3]
          clear ho
          obtain ⟨w2, h1, h2, h3⟩ := store5 HX0.out ⟨0, 0, 0, 0, 0⟩
          have H1 := Lib.hid h1
          have H2 := Lib.hid h2
          have HB := Lib.hid (HB0.out.trans (below_of_grown h3 (Nat.le_refl _) HB0.out.size))
          clear h1 h2 h3
          go_enter Tryd.func12, Tryd.ntmps12
          go_wp2_with (refine store_named (P := Tryd.prog) rfl 24 (.tmp 4) (.tmp 70) rfl w.heap.size 0 #[.int .i64 0, .int .i64 0, .int .u64 0, .int .u64 0, .int .i64 0] rfl rfl (there5 HX0.out) infoV (one5 _ _ _ _ _) H1.out ?_)
          (try simp only [Exit.inBlock, Exit.then])
          refine bodyPost_ret (results_ct rfl _ _ w.heap.size 24 _ (0, 0) _ rfl H2.out Tryd.underlying24 rfl infoV) rfl ?_
          exact ⟨rfl, HB.out⟩
  · obtain ⟨ad, rfl, hc⟩ := ru_at HR.out (by simp)
    have p0 : w0.cell? ⟨ad.block, ad.off, none⟩ = some (.int .u64 a) := hc 0 (by simp)
    obtain ⟨a0, a1⟩ := hw a (by simp)
    clear hc hw
    by_cases k1 : kind = 1
    · subst k1
      obtain rfl : some ⟨1, wrap64 a, 0, 0, 0⟩ = o := by rw [← ho]; simp
      clear ho
      go_enter Tryd.func12, Tryd.ntmps12
      go_wp2_with (go_at_call 31; refine (toint31 _ _).mono ?_; rintro e w9 ⟨rfl, rfl⟩)
      refine (int_any _ _).mono ?_
      rintro e w1 ⟨rfl, hb1⟩
      have HX1 := Lib.hid (blk_below HX0.out hb1)
      have HB1 := Lib.hid (HB0.out.trans (hb1.mono HB0.out.size))
      clear hb1
      obtain ⟨w2, h1, h2, h3⟩ := store5 HX1.out ⟨1, wrap64 a, 0, 0, 0⟩
      have H1 := Lib.hid h1
      have H2 := Lib.hid h2
      have HB := Lib.hid (HB1.out.trans (below_of_grown h3 (Nat.le_refl _) HB1.out.size))
      clear h1 h2 h3
      go_wp2_with (refine store_named (P := Tryd.prog) rfl 24 (.tmp 4) (.tmp 18) rfl w.heap.size 0 #[.int .i64 1, .int .i64 (wrap64 a), .int .u64 0, .int .u64 0, .int .i64 0] rfl rfl (there5 HX1.out) infoV (one5 _ _ _ _ _) H1.out ?_)
      (try simp only [Exit.inBlock, Exit.then])
      refine bodyPost_ret (results_ct rfl _ _ w.heap.size 24 _ (0, 0) _ rfl H2.out Tryd.underlying24 rfl infoV) rfl ?_
      exact ⟨rfl, HB.out⟩
    · by_cases k2 : kind = 2
      · subst k2
        obtain rfl : none = o := by rw [← ho]; simp
        clear ho
        obtain ⟨w2, h1, h2, h3⟩ := store5 HX0.out ⟨0, 0, 0, 0, 0⟩
        have H1 := Lib.hid h1
        have H2 := Lib.hid h2
        have HB := Lib.hid (HB0.out.trans (below_of_grown h3 (Nat.le_refl _) HB0.out.size))
        clear h1 h2 h3
        go_enter Tryd.func12, Tryd.ntmps12
        go_wp2_with (refine store_named (P := Tryd.prog) rfl 24 (.tmp 4) (.tmp 70) rfl w.heap.size 0 #[.int .i64 0, .int .i64 0, .int .u64 0, .int .u64 0, .int .i64 0] rfl rfl (there5 HX0.out) infoV (one5 _ _ _ _ _) H1.out ?_)
        (try simp only [Exit.inBlock, Exit.then])
        refine bodyPost_ret (results_ct rfl _ _ w.heap.size 24 _ (0, 0) _ rfl H2.out Tryd.underlying24 rfl infoV) rfl ?_
        exact ⟨rfl, HB.out⟩
      · by_cases k3 : kind = 3
        · subst k3
          by_cases e0 : a = 0
          · subst e0
            obtain rfl : some ⟨0, 0, 0, 0, 0⟩ = o := by rw [← ho]; simp [z5]
            clear ho
            go_enter Tryd.func12, Tryd.ntmps12
            go_wp2_with (go_at_call 23; fail)
            refine (nil_any _).mono ?_
            rintro e w1 ⟨rfl, hb1⟩
            have HX1 := Lib.hid (blk_below HX0.out hb1)
            have HB1 := Lib.hid (HB0.out.trans (hb1.mono HB0.out.size))
            clear hb1
            obtain ⟨w2, h1, h2, h3⟩ := store5 HX1.out ⟨0, 0, 0, 0, 0⟩
            have H1 := Lib.hid h1
            have H2 := Lib.hid h2
            have HB := Lib.hid (HB1.out.trans (below_of_grown h3 (Nat.le_refl _) HB1.out.size))
            clear h1 h2 h3
            go_wp2_with (refine store_named (P := Tryd.prog) rfl 24 (.tmp 4) (.tmp 49) rfl w.heap.size 0 #[.int .i64 0, .int .i64 0, .int .u64 0, .int .u64 0, .int .i64 0] rfl rfl (there5 HX1.out) infoV (one5 _ _ _ _ _) H1.out ?_)
            (try simp only [Exit.inBlock, Exit.then])
            refine bodyPost_ret (results_ct rfl _ _ w.heap.size 24 _ (0, 0) _ rfl H2.out Tryd.underlying24 rfl infoV) rfl ?_
            exact ⟨rfl, HB.out⟩
          · have q0 : (a == 0) = false := by rw [beq_eq_false_iff_ne]; exact e0
            by_cases e1 : a ≤ 1099511627777
            · skip
              obtain rfl : some ⟨3, 0, 0, 0, a - 1⟩ = o := by rw [← ho]; simp [e0, e1]
              clear ho
              have u1 : IntKind.u64.wrap (a - 1) = a - 1 := wrap_u64n _ (by omega) (by omega)
              have u2 : IntKind.i64.wrap (a - 1) = a - 1 := Go.IntWalk.i64_in _ (by omega)
              go_enter Tryd.func12, Tryd.ntmps12
              go_wp2_with (go_at_call 20; fail)
              refine (ref_any _ _).mono ?_
              rintro e w1 ⟨rfl, hb1⟩
              have HX1 := Lib.hid (blk_below HX0.out hb1)
              have HB1 := Lib.hid (HB0.out.trans (hb1.mono HB0.out.size))
              clear hb1
              obtain ⟨w2, h1, h2, h3⟩ := store5 HX1.out ⟨3, 0, 0, 0, a - 1⟩
              have H1 := Lib.hid h1
              have H2 := Lib.hid h2
              have HB := Lib.hid (HB1.out.trans (below_of_grown h3 (Nat.le_refl _) HB1.out.size))
              clear h1 h2 h3
              go_wp2_with (refine store_named (P := Tryd.prog) rfl 24 (.tmp 4) (.tmp 69) rfl w.heap.size 0 #[.int .i64 3, .int .i64 0, .int .u64 0, .int .u64 0, .int .i64 (a - 1)] rfl rfl (there5 HX1.out) infoV (one5 _ _ _ _ _) H1.out ?_)
              (try simp only [Exit.inBlock, Exit.then])
              refine bodyPost_ret (results_ct rfl _ _ w.heap.size 24 _ (0, 0) _ rfl H2.out Tryd.underlying24 rfl infoV) rfl ?_
              exact ⟨rfl, HB.out⟩
            · skip
              obtain rfl : none = o := by rw [← ho]; simp [e0, e1]
              clear ho
              obtain ⟨w2, h1, h2, h3⟩ := store5 HX0.out ⟨0, 0, 0, 0, 0⟩
              have H1 := Lib.hid h1
              have H2 := Lib.hid h2
              have HB := Lib.hid (HB0.out.trans (below_of_grown h3 (Nat.le_refl _) HB0.out.size))
              clear h1 h2 h3
              go_enter Tryd.func12, Tryd.ntmps12
              go_wp2_with (refine store_named (P := Tryd.prog) rfl 24 (.tmp 4) (.tmp 70) rfl w.heap.size 0 #[.int .i64 0, .int .i64 0, .int .u64 0, .int .u64 0, .int .i64 0] rfl rfl (there5 HX0.out) infoV (one5 _ _ _ _ _) H1.out ?_)
              (try simp only [Exit.inBlock, Exit.then])
              refine bodyPost_ret (results_ct rfl _ _ w.heap.size 24 _ (0, 0) _ rfl H2.out Tryd.underlying24 rfl infoV) rfl ?_
              exact ⟨rfl, HB.out⟩
        · have q1 : (kind == 1) = false := by rw [beq_eq_false_iff_ne]; exact k1
          have q2 : (kind == 2) = false := by rw [beq_eq_false_iff_ne]; exact k2
          have q3 : (kind == 3) = false := by rw [beq_eq_false_iff_ne]; exact k3
          obtain rfl : none = o := by rw [← ho]; simp [k1, k2, k3]
          clear ho
          obtain ⟨w2, h1, h2, h3⟩ := store5 HX0.out ⟨0, 0, 0, 0, 0⟩
          have H1 := Lib.hid h1
          have H2 := Lib.hid h2
          have HB := Lib.hid (HB0.out.trans (below_of_grown h3 (Nat.le_refl _) HB0.out.size))
          clear h1 h2 h3
          go_enter Tryd.func12, Tryd.ntmps12
          go_wp2_with (refine store_named (P := Tryd.prog) rfl 24 (.tmp 4) (.tmp 70) rfl w.heap.size 0 #[.int .i64 0, .int .i64 0, .int .u64 0, .int .u64 0, .int .i64 0] rfl rfl (there5 HX0.out) infoV (one5 _ _ _ _ _) H1.out ?_)
          (try simp only [Exit.inBlock, Exit.then])
          refine bodyPost_ret (results_ct rfl _ _ w.heap.size 24 _ (0, 0) _ rfl H2.out Tryd.underlying24 rfl infoV) rfl ?_
          exact ⟨rfl, HB.out⟩
  · obtain ⟨ad, rfl, hc⟩ := ru_at HR.out (by simp)
    have p0 : w0.cell? ⟨ad.block, ad.off, none⟩ = some (.int .u64 a) := hc 0 (by simp)
    have p1 : w0.cell? ⟨ad.block, ad.off + 1, none⟩ = some (.int .u64 b) := hc 1 (by simp)
    obtain ⟨a0, a1⟩ := hw a (by simp)
    obtain ⟨b0, b1⟩ := hw b (by simp)
    clear hc hw
    by_cases k1 : kind = 1
    · subst k1
      obtain rfl : none = o := by rw [← ho]; simp
      clear ho
      obtain ⟨w2, h1, h2, h3⟩ := store5 HX0.out ⟨0, 0, 0, 0, 0⟩
      have H1 := Lib.hid h1
      have H2 := Lib.hid h2
      have HB := Lib.hid (HB0.out.trans (below_of_grown h3 (Nat.le_refl _) HB0.out.size))
      clear h1 h2 h3
      go_enter Tryd.func12, Tryd.ntmps12
      go_wp2_with (refine store_named (P := Tryd.prog) rfl 24 (.tmp 4) (.tmp 70) rfl w.heap.size 0 #[.int .i64 0, .int .i64 0, .int .u64 0, .int .u64 0, .int .i64 0] rfl rfl (there5 HX0.out) infoV (one5 _ _ _ _ _) H1.out ?_)
      (try simp only [Exit.inBlock, Exit.then])
      refine bodyPost_ret (results_ct rfl _ _ w.heap.size 24 _ (0, 0) _ rfl H2.out Tryd.underlying24 rfl infoV) rfl ?_
      exact ⟨rfl, HB.out⟩
    · by_cases k2 : kind = 2
      · subst k2
        obtain rfl : some ⟨2, 0, a, b, 0⟩ = o := by rw [← ho]; simp
        clear ho
        obtain ⟨a, rfl⟩ := Int.eq_ofNat_of_zero_le a0
        obtain ⟨b, rfl⟩ := Int.eq_ofNat_of_zero_le b0
        have HXd := Lib.hid (blk_below HX0.out (Below.refl w0.heap.size w0).drew)
        have HBd := Lib.hid HB0.out.drew
        go_enter Tryd.func12, Tryd.ntmps12
        go_wp2
        go_region_law (go_simp; first | (go_at_call 32; go_must (refine (of32 _ _ _).mono ?_; rintro e w9 ⟨rfl, rfl⟩)) | (go_at_call 18; go_must (refine (complex_ag _ _ _).mono ?_; rintro e w1 ⟨rfl, hb1⟩; have HX1 := Lib.hid (blk_below HXd.out hb1); have HB1 := Lib.hid (HBd.out.trans (hb1.mono HBd.out.size)); clear hb1; obtain ⟨q0, q1, q2, q3, q4⟩ := Bx5.cells HX1.out; have g0 := blk_frozen HX1.out 0; have g1 := blk_frozen HX1.out 1; have g2 := blk_frozen HX1.out 2; have g3 := blk_frozen HX1.out 3; have g4 := blk_frozen HX1.out 4)))
        all_goals
          go_wp2
          (try simp only [Exit.inBlock, Exit.then])
          refine bodyPost_ret (results_ct rfl _ _ w.heap.size 24 _ (0, 0) _ rfl (set5b HX1.out _ _ (blk_lt HX1.out)).1 Tryd.underlying24 rfl infoV) rfl ?_
          exact ⟨rfl, HB1.out.trans (set5b HX1.out _ _ (blk_lt HX1.out)).2⟩
      · by_cases k3 : kind = 3
        · subst k3
          obtain rfl : none = o := by rw [← ho]; simp
          clear ho
          obtain ⟨w2, h1, h2, h3⟩ := store5 HX0.out ⟨0, 0, 0, 0, 0⟩
          have H1 := Lib.hid h1
          have H2 := Lib.hid h2
          have HB := Lib.hid (HB0.out.trans (below_of_grown h3 (Nat.le_refl _) HB0.out.size))
          clear h1 h2 h3
          go_enter Tryd.func12, Tryd.ntmps12
          go_wp2_with (refine store_named (P := Tryd.prog) rfl 24 (.tmp 4) (.tmp 70) rfl w.heap.size 0 #[.int .i64 0, .int .i64 0, .int .u64 0, .int .u64 0, .int .i64 0] rfl rfl (there5 HX0.out) infoV (one5 _ _ _ _ _) H1.out ?_)
          (try simp only [Exit.inBlock, Exit.then])
          refine bodyPost_ret (results_ct rfl _ _ w.heap.size 24 _ (0, 0) _ rfl H2.out Tryd.underlying24 rfl infoV) rfl ?_
          exact ⟨rfl, HB.out⟩
        · have q1 : (kind == 1) = false := by rw [beq_eq_false_iff_ne]; exact k1
          have q2 : (kind == 2) = false := by rw [beq_eq_false_iff_ne]; exact k2
          have q3 : (kind == 3) = false := by rw [beq_eq_false_iff_ne]; exact k3
          obtain rfl : none = o := by rw [← ho]; simp [k1, k2, k3]
          clear ho
          obtain ⟨w2, h1, h2, h3⟩ := store5 HX0.out ⟨0, 0, 0, 0, 0⟩
          have H1 := Lib.hid h1
          have H2 := Lib.hid h2
          have HB := Lib.hid (HB0.out.trans (below_of_grown h3 (Nat.le_refl _) HB0.out.size))
          clear h1 h2 h3
          go_enter Tryd.func12, Tryd.ntmps12
          go_wp2_with (refine store_named (P := Tryd.prog) rfl 24 (.tmp 4) (.tmp 70) rfl w.heap.size 0 #[.int .i64 0, .int .i64 0, .int .u64 0, .int .u64 0, .int .i64 0] rfl rfl (there5 HX0.out) infoV (one5 _ _ _ _ _) H1.out ?_)
          (try simp only [Exit.inBlock, Exit.then])
          refine bodyPost_ret (results_ct rfl _ _ w.heap.size 24 _ (0, 0) _ rfl H2.out Tryd.underlying24 rfl infoV) rfl ?_
          exact ⟨rfl, HB.out⟩
  · obtain ⟨n, hn⟩ : ∃ n : Nat, (a :: b :: d :: t).length = n := ⟨_, rfl⟩
    have hn3 : 3 ≤ n := by rw [← hn]; simp
    rw [hn] at ho ⊢
    have n1 : ((n : Int) == 1) = false := by rw [beq_eq_false_iff_ne]; omega
    have n2 : ((n : Int) == 2) = false := by rw [beq_eq_false_iff_ne]; omega
    have m1 : ¬ n = 1 := by omega
    have m2 : ¬ n = 2 := by omega
    by_cases k1 : kind = 1
    · subst k1
      obtain rfl : none = o := by rw [← ho]; simp [m1, m2]
      clear ho
      obtain ⟨w2, h1, h2, h3⟩ := store5 HX0.out ⟨0, 0, 0, 0, 0⟩
      have H1 := Lib.hid h1
      have H2 := Lib.hid h2
      have HB := Lib.hid (HB0.out.trans (below_of_grown h3 (Nat.le_refl _) HB0.out.size))
      clear h1 h2 h3
      go_enter Tryd.func12, Tryd.ntmps12
      go_wp2_with (refine store_named (P := Tryd.prog) rfl 24 (.tmp 4) (.tmp 70) rfl w.heap.size 0 #[.int .i64 0, .int .i64 0, .int .u64 0, .int .u64 0, .int .i64 0] rfl rfl (there5 HX0.out) infoV (one5 _ _ _ _ _) H1.out ?_)
      (try simp only [Exit.inBlock, Exit.then])
      refine bodyPost_ret (results_ct rfl _ _ w.heap.size 24 _ (0, 0) _ rfl H2.out Tryd.underlying24 rfl infoV) rfl ?_
      exact ⟨rfl, HB.out⟩
    · by_cases k2 : kind = 2
      · subst k2
        obtain rfl : none = o := by rw [← ho]; simp [m1, m2]
        clear ho
        obtain ⟨w2, h1, h2, h3⟩ := store5 HX0.out ⟨0, 0, 0, 0, 0⟩
        have H1 := Lib.hid h1
        have H2 := Lib.hid h2
        have HB := Lib.hid (HB0.out.trans (below_of_grown h3 (Nat.le_refl _) HB0.out.size))
        clear h1 h2 h3
        go_enter Tryd.func12, Tryd.ntmps12
        go_wp2_with (refine store_named (P := Tryd.prog) rfl 24 (.tmp 4) (.tmp 70) rfl w.heap.size 0 #[.int .i64 0, .int .i64 0, .int .u64 0, .int .u64 0, .int .i64 0] rfl rfl (there5 HX0.out) infoV (one5 _ _ _ _ _) H1.out ?_)
        (try simp only [Exit.inBlock, Exit.then])
        refine bodyPost_ret (results_ct rfl _ _ w.heap.size 24 _ (0, 0) _ rfl H2.out Tryd.underlying24 rfl infoV) rfl ?_
        exact ⟨rfl, HB.out⟩
      · by_cases k3 : kind = 3
        · subst k3
          obtain rfl : none = o := by rw [← ho]; simp [m1, m2]
          clear ho
          obtain ⟨w2, h1, h2, h3⟩ := store5 HX0.out ⟨0, 0, 0, 0, 0⟩
          have H1 := Lib.hid h1
          have H2 := Lib.hid h2
          have HB := Lib.hid (HB0.out.trans (below_of_grown h3 (Nat.le_refl _) HB0.out.size))
          clear h1 h2 h3
          go_enter Tryd.func12, Tryd.ntmps12
          go_wp2_with (refine store_named (P := Tryd.prog) rfl 24 (.tmp 4) (.tmp 70) rfl w.heap.size 0 #[.int .i64 0, .int .i64 0, .int .u64 0, .int .u64 0, .int .i64 0] rfl rfl (there5 HX0.out) infoV (one5 _ _ _ _ _) H1.out ?_)
          (try simp only [Exit.inBlock, Exit.then])
          refine bodyPost_ret (results_ct rfl _ _ w.heap.size 24 _ (0, 0) _ rfl H2.out Tryd.underlying24 rfl infoV) rfl ?_
          exact ⟨rfl, HB.out⟩
        · have q1 : (kind == 1) = false := by rw [beq_eq_false_iff_ne]; exact k1
          have q2 : (kind == 2) = false := by rw [beq_eq_false_iff_ne]; exact k2
          have q3 : (kind == 3) = false := by rw [beq_eq_false_iff_ne]; exact k3
          obtain rfl : none = o := by rw [← ho]; simp [k1, k2, k3]
          clear ho
          obtain ⟨w2, h1, h2, h3⟩ := store5 HX0.out ⟨0, 0, 0, 0, 0⟩
          have H1 := Lib.hid h1
          have H2 := Lib.hid h2
          have HB := Lib.hid (HB0.out.trans (below_of_grown h3 (Nat.le_refl _) HB0.out.size))
          clear h1 h2 h3
          go_enter Tryd.func12, Tryd.ntmps12
          go_wp2_with (refine store_named (P := Tryd.prog) rfl 24 (.tmp 4) (.tmp 70) rfl w.heap.size 0 #[.int .i64 0, .int .i64 0, .int .u64 0, .int .u64 0, .int .i64 0] rfl rfl (there5 HX0.out) infoV (one5 _ _ _ _ _) H1.out ?_)
          (try simp only [Exit.inBlock, Exit.then])
          refine bodyPost_ret (results_ct rfl _ _ w.heap.size 24 _ (0, 0) _ rfl H2.out Tryd.underlying24 rfl infoV) rfl ?_
          exact ⟨rfl, HB.out⟩
theorem rof_any (kind : Int) (A : Option Addr) (c : Nat) (l : List Int) (w : World) (hr : RU w A l) (hw : ∀ x ∈ l, 0 ≤ x ∧ x < 18446744073709551616) : Calls Tryd.prog 13 #[.int .i64 kind, .slice A l.length c] w (OPost kind l w) := by
  have hz := hz24'
  obtain ⟨o, ho⟩ : ∃ o, ofV kind l = o := ⟨_, rfl⟩
  unfold OPost
  rw [ho]
  unfold ofV at ho
  have HX0 := Lib.hid (bx_al w)
  have HB0 := Lib.hid (bel_one w (.cells #[.int .i64 0, .int .i64 0, .int .u64 0, .int .u64 0, .int .i64 0] 24))
  obtain ⟨w0, hw0⟩ : ∃ w0, w.alloc (.cells #[.int .i64 0, .int .i64 0, .int .u64 0, .int .u64 0, .int .i64 0] 24) = w0 := ⟨_, rfl⟩
  rw [hw0] at HX0 HB0
  have HR := Lib.hid (hr.below HB0.out)
  clear hr
  rcases l with _ | ⟨a, _ | ⟨b, _ | ⟨d, t⟩⟩⟩
  · skip
    by_cases k1 : kind = 1
    · subst k1
      obtain rfl : none = o := by rw [← ho]; simp
      clear ho
      obtain ⟨w2, h1, h2, h3⟩ := store5 HX0.out ⟨0, 0, 0, 0, 0⟩
      have H1 := Lib.hid h1
      have H2 := Lib.hid h2
      have HB := Lib.hid (HB0.out.trans (below_of_grown h3 (Nat.le_refl _) HB0.out.size))
      clear h1 h2 h3
      go_enter Tryd.func13, Tryd.ntmps13
      go_wp2_with (refine store_named (P := Tryd.prog) rfl 24 (.tmp 4) (.tmp 69) rfl w.heap.size 0 #[.int .i64 0, .int .i64 0, .int .u64 0, .int .u64 0, .int .i64 0] rfl rfl (there5 HX0.out) infoV (one5 _ _ _ _ _) H1.out ?_)
      (try simp only [Exit.inBlock, Exit.then])
      refine bodyPost_ret (results_ct rfl _ _ w.heap.size 24 _ (0, 0) _ rfl H2.out Tryd.underlying24 rfl infoV) rfl ?_
      exact ⟨rfl, HB.out⟩
    · by_cases k2 : kind = 2
      · subst k2
        obtain rfl : none = o := by rw [← ho]; simp
        clear ho
        obtain ⟨w2, h1, h2, h3⟩ := store5 HX0.out ⟨0, 0, 0, 0, 0⟩
        have H1 := Lib.hid h1
        have H2 := Lib.hid h2
        have HB := Lib.hid (HB0.out.trans (below_of_grown h3 (Nat.le_refl _) HB0.out.size))
        clear h1 h2 h3
        go_enter Tryd.func13, Tryd.ntmps13
        go_wp2_with (refine store_named (P := Tryd.prog) rfl 24 (.tmp 4) (.tmp 69) rfl w.heap.size 0 #[.int .i64 0, .int .i64 0, .int .u64 0, .int .u64 0, .int .i64 0] rfl rfl (there5 HX0.out) infoV (one5 _ _ _ _ _) H1.out ?_)
        (try simp only [Exit.inBlock, Exit.then])
        refine bodyPost_ret (results_ct rfl _ _ w.heap.size 24 _ (0, 0) _ rfl H2.out Tryd.underlying24 rfl infoV) rfl ?_
        exact ⟨rfl, HB.out⟩
      · by_cases k3 : kind = 3
        · subst k3
          obtain rfl : none = o := by rw [← ho]; simp
          clear ho
          obtain ⟨w2, h1, h2, h3⟩ := store5 HX0.out ⟨0, 0, 0, 0, 0⟩
          have H1 := Lib.hid h1
          have H2 := Lib.hid h2
          have HB := Lib.hid (HB0.out.trans (below_of_grown h3 (Nat.le_refl _) HB0.out.size))
          clear h1 h2 h3
          go_enter Tryd.func13, Tryd.ntmps13
          go_wp2_with (refine store_named (P := Tryd.prog) rfl 24 (.tmp 4) (.tmp 69) rfl w.heap.size 0 #[.int .i64 0, .int .i64 0, .int .u64 0, .int .u64 0, .int .i64 0] rfl rfl (there5 HX0.out) infoV (one5 _ _ _ _ _) H1.out ?_)
          (try simp only [Exit.inBlock, Exit.then])
          refine bodyPost_ret (results_ct rfl _ _ w.heap.size 24 _ (0, 0) _ rfl H2.out Tryd.underlying24 rfl infoV) rfl ?_
          exact ⟨rfl, HB.out⟩
        · have q1 : (kind == 1) = false := by rw [beq_eq_false_iff_ne]; exact k1
          have q2 : (kind == 2) = false := by rw [beq_eq_false_iff_ne]; exact k2
          have q3 : (kind == 3) = false := by rw [beq_eq_false_iff_ne]; exact k3
          obtain rfl : none = o := by rw [← ho]; simp [k1, k2, k3]
          clear ho
          obtain ⟨w2, h1, h2, h3⟩ := store5 HX0.out ⟨0, 0, 0, 0, 0⟩
          have H1 := Lib.hid h1
          have H2 := Lib.hid h2
          have HB := Lib.hid (HB0.out.trans (below_of_grown h3 (Nat.le_refl _) HB0.out.size))
          clear h1 h2 h3
          go_enter Tryd.func13, Tryd.ntmps13
          go_wp2_with (refine store_named (P := Tryd.prog) rfl 24 (.tmp 4) (.tmp 69) rfl w.heap.size 0 #[.int .i64 0, .int .i64 0, .int .u64 0, .int .u64 0, .int .i64 0] rfl rfl (there5 HX0.out) infoV (one5 _ _ _ _ _) H1.out ?_)
          (try simp only [Exit.inBlock, Exit.then])
          refine bodyPost_ret (results_ct rfl _ _ w.heap.size 24 _ (0, 0) _ rfl H2.out Tryd.underlying24 rfl infoV) rfl ?_
          exact ⟨rfl, HB.out⟩
  · obtain ⟨ad, rfl, hc⟩ := ru_at HR.out (by simp)
    have p0 : w0.cell? ⟨ad.block, ad.off, none⟩ = some (.int .u64 a) := hc 0 (by simp)
    obtain ⟨a0, a1⟩ := hw a (by simp)
    clear hc hw
    by_cases k1 : kind = 1
    · subst k1
      obtain rfl : some ⟨1, wrap64 a, 0, 0, 0⟩ = o := by rw [← ho]; simp
      clear ho
      obtain ⟨w2, h1, h2, h3⟩ := store5 HX0.out ⟨1, wrap64 a, 0, 0, 0⟩
      have H1 := Lib.hid h1
      have H2 := Lib.hid h2
      have HB := Lib.hid (HB0.out.trans (below_of_grown h3 (Nat.le_refl _) HB0.out.size))
      clear h1 h2 h3
      go_enter Tryd.func13, Tryd.ntmps13
      go_wp2_with (refine store_named (P := Tryd.prog) rfl 24 (.tmp 4) (.tmp 18) rfl w.heap.size 0 #[.int .i64 1, .int .i64 (wrap64 a), .int .u64 0, .int .u64 0, .int .i64 0] rfl rfl (there5 HX0.out) infoV (one5 _ _ _ _ _) H1.out ?_)
      (try simp only [Exit.inBlock, Exit.then])
      refine bodyPost_ret (results_ct rfl _ _ w.heap.size 24 _ (0, 0) _ rfl H2.out Tryd.underlying24 rfl infoV) rfl ?_
      exact ⟨rfl, HB.out⟩
    · by_cases k2 : kind = 2
      · subst k2
        obtain rfl : none = o := by rw [← ho]; simp
        clear ho
        obtain ⟨w2, h1, h2, h3⟩ := store5 HX0.out ⟨0, 0, 0, 0, 0⟩
        have H1 := Lib.hid h1
        have H2 := Lib.hid h2
        have HB := Lib.hid (HB0.out.trans (below_of_grown h3 (Nat.le_refl _) HB0.out.size))
        clear h1 h2 h3
        go_enter Tryd.func13, Tryd.ntmps13
        go_wp2_with (refine store_named (P := Tryd.prog) rfl 24 (.tmp 4) (.tmp 69) rfl w.heap.size 0 #[.int .i64 0, .int .i64 0, .int .u64 0, .int .u64 0, .int .i64 0] rfl rfl (there5 HX0.out) infoV (one5 _ _ _ _ _) H1.out ?_)
        (try simp only [Exit.inBlock, Exit.then])
        refine bodyPost_ret (results_ct rfl _ _ w.heap.size 24 _ (0, 0) _ rfl H2.out Tryd.underlying24 rfl infoV) rfl ?_
        exact ⟨rfl, HB.out⟩
      · by_cases k3 : kind = 3
        · subst k3
          by_cases e0 : a = 0
          · subst e0
            obtain rfl : some ⟨0, 0, 0, 0, 0⟩ = o := by rw [← ho]; simp [z5]
            clear ho
            obtain ⟨w2, h1, h2, h3⟩ := store5 HX0.out ⟨0, 0, 0, 0, 0⟩
            have H1 := Lib.hid h1
            have H2 := Lib.hid h2
            have HB := Lib.hid (HB0.out.trans (below_of_grown h3 (Nat.le_refl _) HB0.out.size))
            clear h1 h2 h3
            go_enter Tryd.func13, Tryd.ntmps13
            go_wp2_with (refine store_named (P := Tryd.prog) rfl 24 (.tmp 4) (.tmp 48) rfl w.heap.size 0 #[.int .i64 0, .int .i64 0, .int .u64 0, .int .u64 0, .int .i64 0] rfl rfl (there5 HX0.out) infoV (one5 _ _ _ _ _) H1.out ?_)
            (try simp only [Exit.inBlock, Exit.then])
            refine bodyPost_ret (results_ct rfl _ _ w.heap.size 24 _ (0, 0) _ rfl H2.out Tryd.underlying24 rfl infoV) rfl ?_
            exact ⟨rfl, HB.out⟩
          · have q0 : (a == 0) = false := by rw [beq_eq_false_iff_ne]; exact e0
            by_cases e1 : a ≤ 1099511627777
            · skip
              obtain rfl : some ⟨3, 0, 0, 0, a - 1⟩ = o := by rw [← ho]; simp [e0, e1]
              clear ho
              have u1 : IntKind.u64.wrap (a - 1) = a - 1 := wrap_u64n _ (by omega) (by omega)
              have u2 : IntKind.i64.wrap (a - 1) = a - 1 := Go.IntWalk.i64_in _ (by omega)
              obtain ⟨w2, h1, h2, h3⟩ := store5 HX0.out ⟨3, 0, 0, 0, a - 1⟩
              have H1 := Lib.hid h1
              have H2 := Lib.hid h2
              have HB := Lib.hid (HB0.out.trans (below_of_grown h3 (Nat.le_refl _) HB0.out.size))
              clear h1 h2 h3
              go_enter Tryd.func13, Tryd.ntmps13
              go_wp2_with (refine store_named (P := Tryd.prog) rfl 24 (.tmp 4) (.tmp 68) rfl w.heap.size 0 #[.int .i64 3, .int .i64 0, .int .u64 0, .int .u64 0, .int .i64 (a - 1)] rfl rfl (there5 HX0.out) infoV (one5 _ _ _ _ _) H1.out ?_)
              (try simp only [Exit.inBlock, Exit.then])
              refine bodyPost_ret (results_ct rfl _ _ w.heap.size 24 _ (0, 0) _ rfl H2.out Tryd.underlying24 rfl infoV) rfl ?_
              exact ⟨rfl, HB.out⟩
            · skip
              obtain rfl : none = o := by rw [← ho]; simp [e0, e1]
              clear ho
              obtain ⟨w2, h1, h2, h3⟩ := store5 HX0.out ⟨0, 0, 0, 0, 0⟩
              have H1 := Lib.hid h1
              have H2 := Lib.hid h2
              have HB := Lib.hid (HB0.out.trans (below_of_grown h3 (Nat.le_refl _) HB0.out.size))
              clear h1 h2 h3
              go_enter Tryd.func13, Tryd.ntmps13
              go_wp2_with (refine store_named (P := Tryd.prog) rfl 24 (.tmp 4) (.tmp 69) rfl w.heap.size 0 #[.int .i64 0, .int .i64 0, .int .u64 0, .int .u64 0, .int .i64 0] rfl rfl (there5 HX0.out) infoV (one5 _ _ _ _ _) H1.out ?_)
              (try simp only [Exit.inBlock, Exit.then])
              refine bodyPost_ret (results_ct rfl _ _ w.heap.size 24 _ (0, 0) _ rfl H2.out Tryd.underlying24 rfl infoV) rfl ?_
              exact ⟨rfl, HB.out⟩
        · have q1 : (kind == 1) = false := by rw [beq_eq_false_iff_ne]; exact k1
          have q2 : (kind == 2) = false := by rw [beq_eq_false_iff_ne]; exact k2
          have q3 : (kind == 3) = false := by rw [beq_eq_false_iff_ne]; exact k3
          obtain rfl : none = o := by rw [← ho]; simp [k1, k2, k3]
          clear ho
          obtain ⟨w2, h1, h2, h3⟩ := store5 HX0.out ⟨0, 0, 0, 0, 0⟩
          have H1 := Lib.hid h1
          have H2 := Lib.hid h2
          have HB := Lib.hid (HB0.out.trans (below_of_grown h3 (Nat.le_refl _) HB0.out.size))
          clear h1 h2 h3
          go_enter Tryd.func13, Tryd.ntmps13
          go_wp2_with (refine store_named (P := Tryd.prog) rfl 24 (.tmp 4) (.tmp 69) rfl w.heap.size 0 #[.int .i64 0, .int .i64 0, .int .u64 0, .int .u64 0, .int .i64 0] rfl rfl (there5 HX0.out) infoV (one5 _ _ _ _ _) H1.out ?_)
          (try simp only [Exit.inBlock, Exit.then])
          refine bodyPost_ret (results_ct rfl _ _ w.heap.size 24 _ (0, 0) _ rfl H2.out Tryd.underlying24 rfl infoV) rfl ?_
          exact ⟨rfl, HB.out⟩
  · obtain ⟨ad, rfl, hc⟩ := ru_at HR.out (by simp)
    have p0 : w0.cell? ⟨ad.block, ad.off, none⟩ = some (.int .u64 a) := hc 0 (by simp)
    have p1 : w0.cell? ⟨ad.block, ad.off + 1, none⟩ = some (.int .u64 b) := hc 1 (by simp)
    obtain ⟨a0, a1⟩ := hw a (by simp)
    obtain ⟨b0, b1⟩ := hw b (by simp)
    clear hc hw
    by_cases k1 : kind = 1
    · subst k1
      obtain rfl : none = o := by rw [← ho]; simp
      clear ho
      obtain ⟨w2, h1, h2, h3⟩ := store5 HX0.out ⟨0, 0, 0, 0, 0⟩
      have H1 := Lib.hid h1
      have H2 := Lib.hid h2
      have HB := Lib.hid (HB0.out.trans (below_of_grown h3 (Nat.le_refl _) HB0.out.size))
      clear h1 h2 h3
      go_enter Tryd.func13, Tryd.ntmps13
      go_wp2_with (refine store_named (P := Tryd.prog) rfl 24 (.tmp 4) (.tmp 69) rfl w.heap.size 0 #[.int .i64 0, .int .i64 0, .int .u64 0, .int .u64 0, .int .i64 0] rfl rfl (there5 HX0.out) infoV (one5 _ _ _ _ _) H1.out ?_)
      (try simp only [Exit.inBlock, Exit.then])
      refine bodyPost_ret (results_ct rfl _ _ w.heap.size 24 _ (0, 0) _ rfl H2.out Tryd.underlying24 rfl infoV) rfl ?_
      exact ⟨rfl, HB.out⟩
    · by_cases k2 : kind = 2
      · subst k2
        obtain rfl : some ⟨2, 0, a, b, 0⟩ = o := by rw [← ho]; simp
        clear ho
        obtain ⟨a, rfl⟩ := Int.eq_ofNat_of_zero_le a0
        obtain ⟨b, rfl⟩ := Int.eq_ofNat_of_zero_le b0
        obtain ⟨q0, q1, q2, q3, q4⟩ := Bx5.cells HX0.out
        have g0 := blk_frozen HX0.out 0
        have g1 := blk_frozen HX0.out 1
        have g2 := blk_frozen HX0.out 2
        have g3 := blk_frozen HX0.out 3
        have g4 := blk_frozen HX0.out 4
        go_enter Tryd.func13, Tryd.ntmps13
        go_wp2
        go_region
        all_goals
          go_wp2
          (try simp only [Exit.inBlock, Exit.then])
          refine bodyPost_ret (results_ct rfl _ _ w.heap.size 24 _ (0, 0) _ rfl (set5 HX0.out _ _ (blk_lt HX0.out)).1 Tryd.underlying24 rfl infoV) rfl ?_
          exact ⟨rfl, HB0.out.trans (set5 HX0.out _ _ (blk_lt HX0.out)).2⟩
      · by_cases k3 : kind = 3
        · subst k3
          obtain rfl : none = o := by rw [← ho]; simp
          clear ho
          obtain ⟨w2, h1, h2, h3⟩ := store5 HX0.out ⟨0, 0, 0, 0, 0⟩
          have H1 := Lib.hid h1
          have H2 := Lib.hid h2
          have HB := Lib.hid (HB0.out.trans (below_of_grown h3 (Nat.le_refl _) HB0.out.size))
          clear h1 h2 h3
          go_enter Tryd.func13, Tryd.ntmps13
          go_wp2_with (refine store_named (P := Tryd.prog) rfl 24 (.tmp 4) (.tmp 69) rfl w.heap.size 0 #[.int .i64 0, .int .i64 0, .int .u64 0, .int .u64 0, .int .i64 0] rfl rfl (there5 HX0.out) infoV (one5 _ _ _ _ _) H1.out ?_)
          (try simp only [Exit.inBlock, Exit.then])
          refine bodyPost_ret (results_ct rfl _ _ w.heap.size 24 _ (0, 0) _ rfl H2.out Tryd.underlying24 rfl infoV) rfl ?_
          exact ⟨rfl, HB.out⟩
        · have q1 : (kind == 1) = false := by rw [beq_eq_false_iff_ne]; exact k1
          have q2 : (kind == 2) = false := by rw [beq_eq_false_iff_ne]; exact k2
          have q3 : (kind == 3) = false := by rw [beq_eq_false_iff_ne]; exact k3
          obtain rfl : none = o := by rw [← ho]; simp [k1, k2, k3]
          clear ho
          obtain ⟨w2, h1, h2, h3⟩ := store5 HX0.out ⟨0, 0, 0, 0, 0⟩
          have H1 := Lib.hid h1
          have H2 := Lib.hid h2
          have HB := Lib.hid (HB0.out.trans (below_of_grown h3 (Nat.le_refl _) HB0.out.size))
          clear h1 h2 h3
          go_enter Tryd.func13, Tryd.ntmps13
          go_wp2_with (refine store_named (P := Tryd.prog) rfl 24 (.tmp 4) (.tmp 69) rfl w.heap.size 0 #[.int .i64 0, .int .i64 0, .int .u64 0, .int .u64 0, .int .i64 0] rfl rfl (there5 HX0.out) infoV (one5 _ _ _ _ _) H1.out ?_)
          (try simp only [Exit.inBlock, Exit.then])
          refine bodyPost_ret (results_ct rfl _ _ w.heap.size 24 _ (0, 0) _ rfl H2.out Tryd.underlying24 rfl infoV) rfl ?_
          exact ⟨rfl, HB.out⟩
  · obtain ⟨n, hn⟩ : ∃ n : Nat, (a :: b :: d :: t).length = n := ⟨_, rfl⟩
    have hn3 : 3 ≤ n := by rw [← hn]; simp
    rw [hn] at ho ⊢
    have n1 : ((n : Int) == 1) = false := by rw [beq_eq_false_iff_ne]; omega
    have n2 : ((n : Int) == 2) = false := by rw [beq_eq_false_iff_ne]; omega
    have m1 : ¬ n = 1 := by omega
    have m2 : ¬ n = 2 := by omega
    by_cases k1 : kind = 1
    · subst k1
      obtain rfl : none = o := by rw [← ho]; simp [m1, m2]
      clear ho
      obtain ⟨w2, h1, h2, h3⟩ := store5 HX0.out ⟨0, 0, 0, 0, 0⟩
      have H1 := Lib.hid h1
      have H2 := Lib.hid h2
      have HB := Lib.hid (HB0.out.trans (below_of_grown h3 (Nat.le_refl _) HB0.out.size))
      clear h1 h2 h3
      go_enter Tryd.func13, Tryd.ntmps13
      go_wp2_with (refine store_named (P := Tryd.prog) rfl 24 (.tmp 4) (.tmp 69) rfl w.heap.size 0 #[.int .i64 0, .int .i64 0, .int .u64 0, .int .u64 0, .int .i64 0] rfl rfl (there5 HX0.out) infoV (one5 _ _ _ _ _) H1.out ?_)
      (try simp only [Exit.inBlock, Exit.then])
      refine bodyPost_ret (results_ct rfl _ _ w.heap.size 24 _ (0, 0) _ rfl H2.out Tryd.underlying24 rfl infoV) rfl ?_
      exact ⟨rfl, HB.out⟩
    · by_cases k2 : kind = 2
      · subst k2
        obtain rfl : none = o := by rw [← ho]; simp [m1, m2]
        clear ho
        obtain ⟨w2, h1, h2, h3⟩ := store5 HX0.out ⟨0, 0, 0, 0, 0⟩
        have H1 := Lib.hid h1
        have H2 := Lib.hid h2
        have HB := Lib.hid (HB0.out.trans (below_of_grown h3 (Nat.le_refl _) HB0.out.size))
        clear h1 h2 h3
        go_enter Tryd.func13, Tryd.ntmps13
        go_wp2_with (refine store_named (P := Tryd.prog) rfl 24 (.tmp 4) (.tmp 69) rfl w.heap.size 0 #[.int .i64 0, .int .i64 0, .int .u64 0, .int .u64 0, .int .i64 0] rfl rfl (there5 HX0.out) infoV (one5 _ _ _ _ _) H1.out ?_)
        (try simp only [Exit.inBlock, Exit.then])
        refine bodyPost_ret (results_ct rfl _ _ w.heap.size 24 _ (0, 0) _ rfl H2.out Tryd.underlying24 rfl infoV) rfl ?_
        exact ⟨rfl, HB.out⟩
      · by_cases k3 : kind = 3
        · subst k3
          obtain rfl : none = o := by rw [← ho]; simp [m1, m2]
          clear ho
          obtain ⟨w2, h1, h2, h3⟩ := store5 HX0.out ⟨0, 0, 0, 0, 0⟩
          have H1 := Lib.hid h1
          have H2 := Lib.hid h2
          have HB := Lib.hid (HB0.out.trans (below_of_grown h3 (Nat.le_refl _) HB0.out.size))
          clear h1 h2 h3
          go_enter Tryd.func13, Tryd.ntmps13
          go_wp2_with (refine store_named (P := Tryd.prog) rfl 24 (.tmp 4) (.tmp 69) rfl w.heap.size 0 #[.int .i64 0, .int .i64 0, .int .u64 0, .int .u64 0, .int .i64 0] rfl rfl (there5 HX0.out) infoV (one5 _ _ _ _ _) H1.out ?_)
          (try simp only [Exit.inBlock, Exit.then])
          refine bodyPost_ret (results_ct rfl _ _ w.heap.size 24 _ (0, 0) _ rfl H2.out Tryd.underlying24 rfl infoV) rfl ?_
          exact ⟨rfl, HB.out⟩
        · have q1 : (kind == 1) = false := by rw [beq_eq_false_iff_ne]; exact k1
          have q2 : (kind == 2) = false := by rw [beq_eq_false_iff_ne]; exact k2
          have q3 : (kind == 3) = false := by rw [beq_eq_false_iff_ne]; exact k3
          obtain rfl : none = o := by rw [← ho]; simp [k1, k2, k3]
          clear ho
          obtain ⟨w2, h1, h2, h3⟩ := store5 HX0.out ⟨0, 0, 0, 0, 0⟩
          have H1 := Lib.hid h1
          have H2 := Lib.hid h2
          have HB := Lib.hid (HB0.out.trans (below_of_grown h3 (Nat.le_refl _) HB0.out.size))
          clear h1 h2 h3
          go_enter Tryd.func13, Tryd.ntmps13
          go_wp2_with (refine store_named (P := Tryd.prog) rfl 24 (.tmp 4) (.tmp 69) rfl w.heap.size 0 #[.int .i64 0, .int .i64 0, .int .u64 0, .int .u64 0, .int .i64 0] rfl rfl (there5 HX0.out) infoV (one5 _ _ _ _ _) H1.out ?_)
          (try simp only [Exit.inBlock, Exit.then])
          refine bodyPost_ret (results_ct rfl _ _ w.heap.size 24 _ (0, 0) _ rfl H2.out Tryd.underlying24 rfl infoV) rfl ?_
          exact ⟨rfl, HB.out⟩
end Go.Proofs.YtacfddlclbelmaaDoor.Vc
