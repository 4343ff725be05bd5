/- The reference's buffer: its functions by their contracts. -/
import Derived.Test.YtmdjbldmfmoaaaaBn
import Derived.Test.YtmdjbldmfmoaaaaBs
import Derived.Test.YtmdjbldmfmoaaaaBw
namespace Go.Proofs.Ytmdjbldmfmoaaaa.Br
open Go.RowKit Go.ChangeShapes Go.WideShapes Go.Proofs.YtmdjbldmfmoaaaaW.PrintWords Go.Proofs.Ytmdjbldmfmoaaaa.Ba Go.Proofs.Ytmdjbldmfmoaaaa.Bu Go.Proofs.Ytmdjbldmfmoaaaa.Bw Go.Proofs.Ytmdjbldmfmoaaaa.Bl Go.Proofs.Ytmdjbldmfmoaaaa.Bn Go.Proofs.Ytmdjbldmfmoaaaa.Bs
set_option linter.unusedVariables false
theorem plain_any (v : V5) (h0 : 0 ≤ v.kd) (h3 : v.kd ≤ 3) (w : World) : Calls Try.prog 30 #[agg5 v] w (ToldPost v w) := by
  have hz : ∀ w, (zeroValue 28).run Try.prog w = .ok (.agg #[.int .i64 0, .int .i64 0, .int .u64 0, .int .u64 0, .int .i64 0]) w := fun w => by kernel_rfl
  obtain ⟨f0, f1, f2, f3, f4⟩ := v
  dsimp only at h0 h3
  have hc : f0 = 0 ∨ f0 = 1 ∨ f0 = 2 ∨ f0 = 3 := by omega
  unfold agg5
  dsimp only
  clear h0 h3
  rcases hc with rfl | rfl | rfl | rfl
  · have HP : Hid (told5 ⟨0, f1, f2, f3, f4⟩ = z5) := Lib.hid rfl
    go_enter Try.func30, Try.ntmps30
    go_wp2
    exact bodyPost_ret (v := agg5 z5) (by simp [results, Try.results30, go_sem, agg5, z5]) rfl ⟨by rw [HP.out], (((Below.refl _ _).alloc (Nat.le_refl _) _).alloc (by simp) _)⟩
  · have HP : Hid (told5 ⟨1, f1, f2, f3, f4⟩ = ⟨1, f1, 0, 0, 0⟩) := Lib.hid rfl
    go_enter Try.func30, Try.ntmps30
    go_wp2
    exact bodyPost_ret (v := agg5 ⟨1, f1, 0, 0, 0⟩) (by simp [results, Try.results30, go_sem, agg5]) rfl ⟨by rw [HP.out], (((Below.refl _ _).alloc (Nat.le_refl _) _).alloc (by simp) _)⟩
  · have HP : Hid (told5 ⟨2, f1, f2, f3, f4⟩ = ⟨2, 0, f2, f3, 0⟩) := Lib.hid rfl
    go_enter Try.func30, Try.ntmps30
    go_wp2
    exact bodyPost_ret (v := agg5 ⟨2, 0, f2, f3, 0⟩) (by simp [results, Try.results30, go_sem, agg5]) rfl ⟨by rw [HP.out], (((Below.refl _ _).alloc (Nat.le_refl _) _).alloc (by simp) _)⟩
  · have HP : Hid (told5 ⟨3, f1, f2, f3, f4⟩ = ⟨3, 0, 0, 0, f4⟩) := Lib.hid rfl
    go_enter Try.func30, Try.ntmps30
    go_wp2
    exact bodyPost_ret (v := agg5 ⟨3, 0, 0, 0, f4⟩) (by simp [results, Try.results30, go_sem, agg5]) rfl ⟨by rw [HP.out], (((Below.refl _ _).alloc (Nat.le_refl _) _).alloc (by simp) _)⟩
theorem rmay_cases (x : W8) : (mayB x = true ∧ (((x.kind == 1) = true ∧ 0 ≤ x.obj ∧ 0 ≤ x.field ∧ 0 ≤ x.v.kd ∧ x.v.kd ≤ 3) ∨ ((x.kind == 1) = false ∧ 1 ≤ x.kind ∧ x.kind ≤ 3 ∧ 0 ≤ x.field ∧ (x.v.kd == 0) = true) ∨ ((x.kind == 1) = false ∧ 1 ≤ x.kind ∧ x.kind ≤ 3 ∧ 0 ≤ x.field ∧ (x.v.kd == 0) = false ∧ (x.v.kd == 3) = true))) ∨
    (mayB x = false ∧ (x.kind < 1 ∨ (1 ≤ x.kind ∧ 3 < x.kind) ∨ ((x.kind == 1) = true ∧ x.obj < 0) ∨ ((x.kind == 1) = true ∧ 0 ≤ x.obj ∧ x.field < 0) ∨ ((x.kind == 1) = true ∧ 0 ≤ x.obj ∧ 0 ≤ x.field ∧ x.v.kd < 0) ∨ ((x.kind == 1) = true ∧ 0 ≤ x.obj ∧ 0 ≤ x.field ∧ 0 ≤ x.v.kd ∧ 3 < x.v.kd) ∨
      ((x.kind == 1) = false ∧ 1 ≤ x.kind ∧ x.kind ≤ 3 ∧ x.field < 0) ∨ ((x.kind == 1) = false ∧ 1 ≤ x.kind ∧ x.kind ≤ 3 ∧ 0 ≤ x.field ∧ x.v.kd < 0) ∨ ((x.kind == 1) = false ∧ 1 ≤ x.kind ∧ x.kind ≤ 3 ∧ 0 ≤ x.field ∧ 0 ≤ x.v.kd ∧ 3 < x.v.kd) ∨
      ((x.kind == 1) = false ∧ 1 ≤ x.kind ∧ x.kind ≤ 3 ∧ 0 ≤ x.field ∧ 0 ≤ x.v.kd ∧ x.v.kd ≤ 3 ∧ (x.v.kd == 0) = false ∧ (x.v.kd == 3) = false))) := by
  obtain ⟨f0, f1, f2, ⟨f3, f4, f5, f6, f7⟩⟩ := x
  unfold mayB
  dsimp only
  by_cases e1 : f0 = 1
  · subst e1
    by_cases h1 : 0 ≤ f1 <;> by_cases h2 : 0 ≤ f2 <;> by_cases h3 : 0 ≤ f3 <;> by_cases h4 : f3 ≤ 3 <;> simp [h1, h2, h3, h4] <;> omega
  · by_cases h5 : f0 = 2 ∨ f0 = 3
    · have h6 : (f0 == 1) = false := by simp [e1]
      have h7 : (f0 == 2 || f0 == 3) = true := by simp [h5]
      have h8 : 1 ≤ f0 ∧ f0 ≤ 3 := by omega
      by_cases h2 : 0 ≤ f2 <;> by_cases h3 : f3 = 0 <;> by_cases h4 : f3 = 3 <;> simp [h6, h7, h8, h2, h3, h4] <;> omega
    · have h6 : (f0 == 1) = false := by simp [e1]
      have h7 : (f0 == 2 || f0 == 3) = false := by simp; omega
      simp [h6, h7]; omega
set_option maxHeartbeats 4000000 in
theorem rmay_any (x : W8) (w : World) : Calls Try.prog 29 #[agg8 x] w (BoolPost (mayB x) w) := by
  have hc := rmay_cases x
  obtain ⟨f0, f1, f2, ⟨f3, f4, f5, f6, f7⟩⟩ := x
  unfold agg8
  dsimp only at hc ⊢
  obtain ⟨b, hb⟩ : ∃ b, mayB ⟨f0, f1, f2, ⟨f3, f4, f5, f6, f7⟩⟩ = b := ⟨_, rfl⟩
  rw [hb] at hc ⊢
  clear hb
  have HB := Lib.hid (((Below.refl w.heap.size w).alloc (Nat.le_refl _) (.cells #[.int .i64 f0, .int .i64 f1, .int .i64 f2, .int .i64 f3, .int .i64 f4, .int .u64 f5, .int .u64 f6, .int .i64 f7] 31)))
  rcases hc with ⟨rfl, hc⟩ | ⟨rfl, hc⟩
  · rcases hc with ⟨e1, h1, h2, h3, h4⟩ | ⟨e1, h5, h6, h1, e3⟩ | ⟨e1, h5, h6, h1, e3, e4⟩
    · obtain rfl : f0 = 1 := beq_iff_eq.1 e1
      go_enter Try.func29, Try.ntmps29
      go_wp2
      go_ret
      exact ⟨rfl, HB.out⟩
    · obtain rfl : f3 = 0 := beq_iff_eq.1 e3
      go_enter Try.func29, Try.ntmps29
      go_wp2
      go_ret
      exact ⟨rfl, HB.out⟩
    · obtain rfl : f3 = 3 := beq_iff_eq.1 e4
      go_enter Try.func29, Try.ntmps29
      go_wp2
      go_ret
      exact ⟨rfl, HB.out⟩
  · rcases hc with h1 | ⟨h1, h2⟩ | ⟨e1, h1⟩ | ⟨e1, h1, h2⟩ | ⟨e1, h1, h2, h3⟩ | ⟨e1, h1, h2, h3, h4⟩ | ⟨e1, h5, h6, h1⟩ | ⟨e1, h5, h6, h1, h2⟩ | ⟨e1, h5, h6, h1, h2, h3⟩ | ⟨e1, h5, h6, h1, h2, h3, e3, e4⟩
    · go_enter Try.func29, Try.ntmps29
      go_wp2
      go_ret
      exact ⟨rfl, HB.out⟩
    · go_enter Try.func29, Try.ntmps29
      go_wp2
      go_ret
      exact ⟨rfl, HB.out⟩
    · obtain rfl : f0 = 1 := beq_iff_eq.1 e1
      go_enter Try.func29, Try.ntmps29
      go_wp2
      go_ret
      exact ⟨rfl, HB.out⟩
    · obtain rfl : f0 = 1 := beq_iff_eq.1 e1
      go_enter Try.func29, Try.ntmps29
      go_wp2
      go_ret
      exact ⟨rfl, HB.out⟩
    · obtain rfl : f0 = 1 := beq_iff_eq.1 e1
      go_enter Try.func29, Try.ntmps29
      go_wp2
      go_ret
      exact ⟨rfl, HB.out⟩
    · obtain rfl : f0 = 1 := beq_iff_eq.1 e1
      go_enter Try.func29, Try.ntmps29
      go_wp2
      go_ret
      exact ⟨rfl, HB.out⟩
    · go_enter Try.func29, Try.ntmps29
      go_wp2
      go_ret
      exact ⟨rfl, HB.out⟩
    · go_enter Try.func29, Try.ntmps29
      go_wp2
      go_ret
      exact ⟨rfl, HB.out⟩
    · go_enter Try.func29, Try.ntmps29
      go_wp2
      go_ret
      exact ⟨rfl, HB.out⟩
    · go_enter Try.func29, Try.ntmps29
      go_wp2
      go_ret
      exact ⟨rfl, HB.out⟩
/-- The reference's buffer: its block, its row. -/
def Rf (W : World) (B g : Nat) (v : Value) (l : List W8) : Prop := W.heap[g]? = some (.cells #[v] 49 (0, 0)) ∧ R8 W B v l ∧ B ≤ g ∧ l.length ≤ 64
theorem Rf.lt {W : World} {B g : Nat} {v : Value} {l : List W8} (hf : Rf W B g v l) : g < W.heap.size := (Array.getElem?_eq_some_iff.1 hf.1).1
theorem Rf.later {W W' : World} {B g : Nat} {v : Value} {l : List W8} (hf : Rf W B g v l) (hb : Below W.heap.size W W') : Rf W' B g v l :=
  ⟨(hb.block g hf.lt).trans hf.1, hf.2.1.below hb, hf.2.2⟩
theorem Rf.cell {W : World} {B g : Nat} {v : Value} {l : List W8} (hf : Rf W B g v l) : W.cell? ⟨g, 0, none⟩ = some v := cell_of_one hf.1
theorem Rf.free {W : World} {B g : Nat} {v : Value} {l : List W8} (hf : Rf W B g v l) : W.frozen? ⟨g, 0, none⟩ = false := free_of_one hf.1
theorem Rf.ne {W : World} {B g : Nat} {v : Value} {l : List W8} (hf : Rf W B g v l) : v.ownBlock ≠ some g := by
  intro e
  obtain ⟨inner, ho⟩ := Kd.R_own hf.2.1
  obtain ⟨cs, hc⟩ := own_typed ho g e
  have h := hf.1
  rw [hc] at h
  injection h with h
  injection h with _ h
  cases h
set_option maxHeartbeats 4000000 in
theorem rat_any (B g : Nat) (v : Value) (l : List W8) (k o f : Int) (w : World) (hf : Rf w B g v l) : Calls Try.prog 31 #[.pointer (some ⟨g, 0, none⟩), .int .i64 k, .int .i64 o, .int .i64 f] w (IntPost (fi k o f l) w) := by
  have h64 := hf.2.2.2
  have hc0 := hf.cell
  obtain ⟨A, c, rfl, hlc, hC⟩ := hf.2.1.reads
  have HC := Lib.hid hC
  clear hC hf
  go_enter Try.func31, Try.ntmps31
  go_wp2
  go_loopw [16] (fun z wr => ∃ i : Nat, i ≤ l.length ∧ z = .int .i64 (i : Int) ∧ (∀ j, j < i → matchP k o f (l.getD j z8) = false) ∧ Below w.heap.size w wr) (fun z _ => l.length - (intOf z).toNat)
  case atStart => exact ⟨0, by omega, rfl, fun j hj => by omega, Below.refl _ _⟩
  case round =>
    obtain ⟨i, hi, rfl, hno, hb⟩ := hrel
    have HNO := Lib.hid hno
    clear hno
    have hsz := hb.size
    by_cases hlt : i < l.length
    · obtain ⟨ad, rfl, hc⟩ := at_W8 (Kd.C_below HC.out hb) i hlt
      have HM : Hid (matchP k o f (l.getD i z8) = true → fi k o f l = (i : Int)) := Lib.hid (fun h => fi_found hlt h HNO.out)
      have HN : Hid (matchP k o f (l.getD i z8) = false → ∀ j, j < i + 1 → matchP k o f (l.getD j z8) = false) := Lib.hid (fun h j hj => by
        by_cases e : j = i
        · subst e; exact h
        · exact HNO.out j (by omega))
      obtain ⟨x, hx⟩ : ∃ x, l.getD i z8 = x := ⟨_, rfl⟩
      rw [hx] at hc HM HN
      clear hx
      obtain ⟨q0, q1, q2, q3, q4, q5, q6, q7⟩ := hc
      obtain ⟨f0, f1, f2, ⟨f3, f4, f5, f6, f7⟩⟩ := x
      dsimp only at q0 q1 q2 q3 q4 q5 q6 q7
      have hb1 := hb.alloc hb.size (.cells #[.int .i64 f0, .int .i64 f1, .int .i64 f2, .int .i64 f3, .int .i64 f4, .int .u64 f5, .int .u64 f6, .int .i64 f7] 31)
      cases em : matchP k o f ⟨f0, f1, f2, ⟨f3, f4, f5, f6, f7⟩⟩
      · have HN := Lib.hid (HN.out em)
        have ec := match_f (f0 == k) (f2 == f) (k != 1) (f1 == o) em
        clear em HM hb
        rcases ec with e1 | ⟨e1, e2⟩ | ⟨e1, e2, e3, e4⟩
        all_goals
          go_wp2
          go_roundw
          case rel => exact ⟨i + 1, by omega, by go_num, HN.out, hb1⟩
          case measure => simp [intOf]; omega
      · have HM := Lib.hid (HM.out em)
        have ec := match_t (f0 == k) (f2 == f) (k != 1) (f1 == o) em
        clear em HN hb
        rcases ec with ⟨e1, e2, e3⟩ | ⟨e1, e2, e3, e4⟩
        all_goals
          go_wp2
          go_ret
          rw [HM.out]
          exact ⟨rfl, hb1⟩
    · obtain rfl : i = l.length := by omega
      have HM := Lib.hid (fi_none (k := k) (o := o) (f := f) HNO.out)
      go_wp2
      go_ret
      rw [HM.out]
      exact ⟨rfl, hb⟩
set_option maxHeartbeats 4000000 in
theorem rfind_any (B g : Nat) (v : Value) (l : List W8) (k o f : Int) (w : World) (h : Rf w B g v l) : Calls Try.prog 22 #[.pointer (some ⟨g, 0, none⟩), .int .i64 k, .int .i64 o, .int .i64 f] w (FindPost (fv k o f l) (fb k o f l) w) := by
  have hz : ∀ w, (zeroValue 28).run Try.prog w = .ok (.agg #[.int .i64 0, .int .i64 0, .int .u64 0, .int .u64 0, .int .i64 0]) w := fun w => by kernel_rfl
  have hb0 := (Below.refl w.heap.size w).alloc (Nat.le_refl _) (.cells #[.int .i64 0, .int .i64 0, .int .u64 0, .int .u64 0, .int .i64 0] 28)
  have HF := Lib.hid (h.later hb0)
  have HX : Hid (Bx5 (w.alloc (.cells #[.int .i64 0, .int .i64 0, .int .u64 0, .int .u64 0, .int .i64 0] 28)) w.heap.size z5) := Lib.hid (heap_alloc_new w _)
  have h64 := h.2.2.2
  clear h
  go_enter Try.func22, Try.ntmps22
  go_wp2_with fail
  refine (rat_any B g v l k o f _ HF.out).mono ?_
  rintro e w1 ⟨rfl, hb1⟩
  have hx1 := HX.out.below hb1 (by rw [size_al]; omega)
  have hb2 := hb0.trans (hb1.mono hb0.size)
  have HF1 := HF.out.later hb1
  have HTH := Lib.hid (Bx5.there0 hx1)
  have hc1 := HF1.cell
  obtain ⟨A, c, rfl, hlc, hC⟩ := HF1.2.1.reads
  have HC := Lib.hid hC
  clear HF HF1 HX hb0 hb1 hC
  by_cases hi : l.findIdx (matchP k o f) < l.length
  · have e1 : fi k o f l = (l.findIdx (matchP k o f) : Int) := by unfold fi; rw [if_pos hi]
    have e2 : fv k o f l = (l.getD (l.findIdx (matchP k o f)) z8).v := by unfold fv; rw [if_pos hi]
    have e3 : fb k o f l = true := decide_eq_true hi
    rw [e1]
    have E2 := Lib.hid e2
    have E3 := Lib.hid e3
    obtain ⟨i, hii⟩ : ∃ i, l.findIdx (matchP k o f) = i := ⟨_, rfl⟩
    rw [hii] at hi E2 ⊢
    clear hii e1 e2 e3
    obtain ⟨ad, rfl, hc⟩ := at_W8 HC.out i hi
    obtain ⟨x, hx⟩ : ∃ x, l.getD i z8 = x := ⟨_, rfl⟩
    rw [hx] at hc E2
    clear hx
    obtain ⟨q0, q1, q2, q3, q4, q5, q6, q7⟩ := hc
    obtain ⟨f0, f1, f2, ⟨f3, f4, f5, f6, f7⟩⟩ := x
    dsimp only at q3 q4 q5 q6 q7 E2
    obtain ⟨w2, hw2, hx2, hg2⟩ := Bx5.store hx1 ⟨f3, f4, f5, f6, f7⟩
    have HW2 := Lib.hid hw2
    obtain ⟨p0, p1, p2, p3, p4⟩ := hx2.cells
    have hb3 := hb2.grown hg2 hb2.size (fun k hk => by injection hk with hk; omega)
    clear hw2 hx2 hg2 hx1 hb2 q0 q1 q2
    go_wp2_with (refine store_named (P := Try.prog) rfl 28 (.tmp 8) (.tmp 25) rfl w.heap.size 0 #[.int .i64 f3, .int .i64 f4, .int .u64 f5, .int .u64 f6, .int .i64 f7] rfl rfl HTH.out infoV (one5 _ _ _ _ _) HW2.out ?_)
    refine bodyPost_ret (v := .tuple #[agg5 ⟨f3, f4, f5, f6, f7⟩, .bool true]) (by simp [results, Try.results22, go_sem, agg5, p0, p1, p2, p3, p4]) rfl ⟨by rw [E2.out, E3.out], hb3⟩
  · have e1 : fi k o f l = -1 := by unfold fi; rw [if_neg hi]
    have E2 := Lib.hid (show fv k o f l = z5 by unfold fv; rw [if_neg hi])
    have E3 := Lib.hid (show fb k o f l = false from decide_eq_false hi)
    rw [e1]
    obtain ⟨w2, hw2, hx2, hg2⟩ := Bx5.store hx1 z5
    have HW2 := Lib.hid hw2
    obtain ⟨p0, p1, p2, p3, p4⟩ := Bx5.cells (a := 0) (b := 0) (c := 0) (d := 0) (e := 0) hx2
    have hb3 := hb2.grown hg2 hb2.size (fun k hk => by injection hk with hk; omega)
    clear hw2 hx2 hg2 hx1 hb2 e1 hi
    go_wp2_with (refine store_named (P := Try.prog) rfl 28 (.tmp 8) (.tmp 26) rfl w.heap.size 0 #[.int .i64 0, .int .i64 0, .int .u64 0, .int .u64 0, .int .i64 0] rfl rfl HTH.out infoV (one5 _ _ _ _ _) HW2.out ?_)
    refine bodyPost_ret (v := .tuple #[agg5 z5, .bool false]) (by simp [results, Try.results22, go_sem, agg5, z5, p0, p1, p2, p3, p4]) rfl ⟨by rw [E2.out, E3.out], hb3⟩
set_option maxHeartbeats 4000000 in
theorem rrefs_any (B g : Nat) (v : Value) (l : List W8) (w : World) (h : Rf w B g v l) : Calls Try.prog 24 #[.pointer (some ⟨g, 0, none⟩)] w (RowPost (refsAll l) w) := by
  have h64 := h.2.2.2
  have hc0 := h.cell
  obtain ⟨A, c, rfl, _, hC⟩ := h.2.1.reads
  have HC := Lib.hid hC
  have hb := Below.refl w.heap.size w
  clear h hC
  go_enter Try.func24, Try.ntmps24
  go_wp2
  go_loopw [3, 11] (fun v i wr => ∃ k : Nat, k ≤ l.length ∧ i = .int .i64 (k : Int) ∧ wr.ownsRow w.heap.size 3 1 v (refsAll (l.take k)).length ((refsAll (l.take k)).map (Value.int .i64)) ∧ Below w.heap.size w wr) (fun _ i _ => l.length - (intOf i).toNat)
  case atStart => exact ⟨0, by omega, rfl, own_nil _ _ _ _, Below.refl _ _⟩
  case round =>
    obtain ⟨k, hk, rfl, ho, hb1⟩ := hrel
    by_cases hlt : k < l.length
    · obtain ⟨ad, rfl, hc⟩ := at_W8 (Kd.C_below HC.out hb1) k hlt
      have hll := refsAll_le (l.take k)
      rw [List.length_take] at hll
      have es : refsAll (l.take (k + 1)) = refsAll (l.take k) ++ refs1 (l.getD k z8) := by rw [take_snoc l z8 k hlt, refsAll_snoc]
      have ES := Lib.hid es
      clear es
      obtain ⟨L, hL⟩ : ∃ L, refsAll (l.take k) = L := ⟨_, rfl⟩
      obtain ⟨x, hx⟩ : ∃ x, l.getD k z8 = x := ⟨_, rfl⟩
      rw [hL] at ho hll ES
      rw [hx] at hc ES
      clear hL hx
      have hL128 : L.length ≤ 128 := by omega
      clear hll
      obtain ⟨q0, q1, q2, q3, q4, q5, q6, q7⟩ := hc
      obtain ⟨f0, f1, f2, ⟨f3, f4, f5, f6, f7⟩⟩ := x
      dsimp only at q0 q1 q2 q3 q4 q5 q6 q7
      have HOo := Lib.hid ho
      have hb2 := hb1.alloc hb1.size (.cells #[.int .i64 f0, .int .i64 f1, .int .i64 f2, .int .i64 f3, .int .i64 f4, .int .u64 f5, .int .u64 f6, .int .i64 f7] 31)
      have HO := Lib.hid (ho.alloc (.cells #[.int .i64 f0, .int .i64 f1, .int .i64 f2, .int .i64 f3, .int .i64 f4, .int .u64 f5, .int .u64 f6, .int .i64 f7] 31))
      have HX : Hid (Bx8 (wr.alloc (.cells #[.int .i64 f0, .int .i64 f1, .int .i64 f2, .int .i64 f3, .int .i64 f4, .int .u64 f5, .int .u64 f6, .int .i64 f7] 31)) wr.heap.size ⟨f0, f1, f2, ⟨f3, f4, f5, f6, f7⟩⟩) := Lib.hid (heap_alloc_new wr _)
      have HSZ := Lib.hid (size_al wr (.cells #[.int .i64 f0, .int .i64 f1, .int .i64 f2, .int .i64 f3, .int .i64 f4, .int .u64 f5, .int .u64 f6, .int .i64 f7] 31))
      have hbs := hb1.size
      have HBA := Lib.hid (show w.heap.size ≤ (wr.alloc (.cells #[.int .i64 f0, .int .i64 f1, .int .i64 f2, .int .i64 f3, .int .i64 f4, .int .u64 f5, .int .u64 f6, .int .i64 f7] 31)).heap.size by rw [size_al]; omega)
      clear ho
      have HE := Lib.hid (show refs1 ⟨f0, f1, f2, ⟨f3, f4, f5, f6, f7⟩⟩ = (if (f0 == 1) = true then [f1] else []) ++ (if (f3 == 3) = true then [f7] else []) from rfl)
      rw [HE.out] at ES
      cases e1 : (f0 == 1)
      · cases e3 : (f3 == 3)
        · rw [e1, e3, if_neg (by decide), if_neg (by decide), List.append_nil, List.append_nil] at ES
          clear HE
          go_wp2
          go_roundw
          case rel => exact ⟨k + 1, by omega, by go_num, by rw [ES.out]; exact HO.out, hb2⟩
          case measure => simp [intOf]; omega
        · rw [e1, e3, if_neg (by decide), if_pos rfl, List.nil_append] at ES
          clear HE
          go_wp2_with (at_builtin; refine print_append_num (P := Try.prog) (w0 := w) (W := wr.alloc (.cells #[.int .i64 f0, .int .i64 f1, .int .i64 f2, .int .i64 f3, .int .i64 f4, .int .u64 f5, .int .u64 f6, .int .i64 f7] 31)) w.heap.size rfl (.tmp 27) (.tmp 31) 39 3 .i64 8 rfl Try.underlying39 info3 (by omega) _ L f7 rfl (congrArg (fun n => Value.slice (some ⟨n, 0, none⟩) 1 1) HSZ.out.symm) HO.out hb2 HBA.out ?c1 ?_)
          case c1 => omega
          intro v3 w3 ho3 hb3 _ _
          rw [← ES.out] at ho3
          have HO3 := Lib.hid ho3
          clear ho3
          go_wp2
          go_roundw
          case rel => exact ⟨k + 1, by omega, by go_num, by simpa [ES.out, nums] using HO3.out, hb3⟩
          case measure => simp [intOf]; omega
      · go_wp2_with (at_builtin; refine print_append_num (P := Try.prog) (w0 := w) (W := wr.alloc (.cells #[.int .i64 f0, .int .i64 f1, .int .i64 f2, .int .i64 f3, .int .i64 f4, .int .u64 f5, .int .u64 f6, .int .i64 f7] 31)) w.heap.size rfl (.tmp 18) (.tmp 21) 39 3 .i64 8 rfl Try.underlying39 info3 (by omega) _ L f1 rfl (congrArg (fun n => Value.slice (some ⟨n, 0, none⟩) 1 1) HSZ.out.symm) HO.out hb2 HBA.out ?c2 ?_)
        case c2 => omega
        intro v2 w2 ho2 hb3 hg2 _
        have hx2 : Bx8 w2 wr.heap.size ⟨f0, f1, f2, ⟨f3, f4, f5, f6, f7⟩⟩ := (hg2.block _ (by rw [size_al]; omega) (fun e => by have := (HOo.out.lt _ e.symm).2; omega)).trans HX.out
        obtain ⟨p0, p1, p2, p3, p4, p5, p6, p7⟩ := hx2.cells
        have HO2 := Lib.hid ho2
        have hb3s := hb3.size
        clear ho2 hg2 hx2 q0 q1 q2 q3 q4 q5 q6 q7
        cases e3 : (f3 == 3)
        · rw [e1, e3, if_pos rfl, if_neg (by decide), List.append_nil] at ES
          clear HE
          go_wp2
          go_roundw
          case rel => exact ⟨k + 1, by omega, by go_num, by simpa [ES.out, nums] using HO2.out, hb3⟩
          case measure => simp [intOf]; omega
        · rw [e1, e3, if_pos rfl, if_pos rfl] at ES
          clear HE
          have hL1 : (L ++ [f1]).length ≤ 129 := by rw [List.length_append]; simp; omega
          have HO2' : Hid (w2.ownsRow w.heap.size 3 1 v2 (L ++ [f1]).length (nums .i64 (L ++ [f1]))) := Lib.hid (by simpa using HO2.out)
          obtain ⟨L1, hL1e⟩ : ∃ L1, L ++ [f1] = L1 := ⟨_, rfl⟩
          rw [← List.append_assoc, hL1e] at ES
          rw [hL1e] at HO2' hL1
          clear HO2 hL1e
          go_wp2_with (at_builtin; refine print_append_num (P := Try.prog) (w0 := w) (W := w2) w.heap.size rfl (.tmp 27) (.tmp 31) 39 3 .i64 8 rfl Try.underlying39 info3 (by omega) _ L1 f7 rfl rfl HO2'.out hb3 hb3s ?c3 ?_)
          case c3 => omega
          intro v3 w3 ho3 hb4 _ _
          rw [← ES.out] at ho3
          have HO3 := Lib.hid ho3
          clear ho3
          go_wp2
          go_roundw
          case rel => exact ⟨k + 1, by omega, by go_num, by simpa [ES.out, nums] using HO3.out, hb4⟩
          case measure => simp [intOf]; omega
    · obtain rfl : k = l.length := by omega
      rw [List.take_length] at ho
      have HO := Lib.hid (own_weaken ho hb.size)
      have hbf := hb.trans (hb1.mono hb.size)
      clear ho
      go_wp2
      go_ret
      exact ⟨_, rfl, HO.out, hbf⟩
end Go.Proofs.Ytmdjbldmfmoaaaa.Br
