/-
  Small functions of values and complex numbers: each returns what it says, and nothing that was there has turned.
-/
import Derived.Test.YtacfddlclbelmaaDoorVa
namespace Go.Proofs.YtacfddlclbelmaaDoor.Vb
open Go.RowKit Go.ChangeShapes Go.WideShapes Go.Proofs.YtacfddlclbelmaaDoorW.PrintWords Go.Proofs.YtacfddlclbelmaaDoor.Ba Go.Proofs.YtacfddlclbelmaaDoor.Va
set_option linter.unusedVariables false
set_option linter.unusedSimpArgs false
set_option maxRecDepth 100000
set_option maxHeartbeats 4000000
theorem below_of_grown {a b : World} {g n : Nat} (h : a.grownBy b (some g)) (hg : n ≤ g) (hn : n ≤ a.heap.size) : Below n a b :=
  ⟨h.os, h.tape, h.output, h.size, fun k hk => h.block k (Nat.lt_of_lt_of_le hk hn) (fun e => by cases e; omega)⟩
theorem there5 {w : World} {g : Nat} {x : V5} (h : Bx5 w g x) : w.there g 0 5 := by
  intro j hj
  refine ⟨?_, blk_frozen h _⟩
  rw [cell_of_row w g _ _ 24 (0, 0) h]
  have : j = 0 ∨ j = 1 ∨ j = 2 ∨ j = 3 ∨ j = 4 := by omega
  rcases this with rfl | rfl | rfl | rfl | rfl <;> rfl
theorem store5 {w : World} {g : Nat} {x : V5} (h : Bx5 w g x) (r : V5) : ∃ w2, w.setCells g 0 r.cs = w2 ∧ Bx5 w2 g r ∧ w.grownBy w2 (some g) := by
  refine ⟨_, rfl, ?_, ?_⟩
  · obtain ⟨cur', h3, h4, h5⟩ := setCells_row r.cs 0 w _ h (by simp [V5.cs])
    unfold Bx5
    rw [h3]
    have : cur'.toList = r.cs := by
      have e : cur'.toList = cur'.toList.take (0 + r.cs.length) := (List.take_of_length_le (by rw [Array.length_toList, h4]; simp [V5.cs])).symm
      rw [e, h5]
      rfl
    have : cur' = r.cs.toArray := by rw [← this]
    rw [this]
    rfl
  · obtain ⟨s1, s2, s3, s4⟩ := setCells_same g r.cs 0 w
    exact ⟨s1, s2, s3, by rw [s4]; exact Nat.le_refl _, fun k _ hk => setCells_far r.cs _ k (fun he => hk (by rw [he]))⟩
theorem hz24 : ∀ w, (zeroValue 24).run Tryd.prog w = .ok (agg5 z5) w := fun w => by kernel_rfl
/-- A new block of five cells, stored whole: one name for the world behind it. -/
theorem stored (w : World) (r : V5) : ∃ w2, (w.alloc (.cells #[.int .i64 0, .int .i64 0, .int .u64 0, .int .u64 0, .int .i64 0] 24)).setCells w.heap.size 0 r.cs = w2 ∧ Bx5 w2 w.heap.size r ∧ Below w.heap.size w w2 := by
  have h0 : Bx5 (w.alloc (.cells #[.int .i64 0, .int .i64 0, .int .u64 0, .int .u64 0, .int .i64 0] 24)) w.heap.size z5 := heap_alloc_new w _
  obtain ⟨w2, h1, h2, h3⟩ := store5 h0 r
  exact ⟨w2, h1, h2, (bel_one w _).trans (below_of_grown h3 (Nat.le_refl _) (by rw [size_al]; omega))⟩
def VPost (v : V5) (w : World) (e : Ending) (w' : World) : Prop := e = .returned (agg5 v) ∧ Below w.heap.size w w'
theorem hz24' : ∀ w, (zeroValue 24).run Tryd.prog w = .ok (.agg #[.int .i64 0, .int .i64 0, .int .u64 0, .int .u64 0, .int .i64 0]) w := hz24
theorem frombits (n : Int) (w : World) : (callFunc 34 #[.int .u64 n]).run Tryd.prog w = .ok (.value (.float .f64 n.toNat)) w := by
  rw [run_callFunc_extern Tryd.func34 (by kernel_rfl) (by kernel_rfl) (by kernel_rfl) (e := Extern.MathFloatBits.float64frombits) (by kernel_rfl)]
  rfl
theorem bits (n : Nat) (w : World) : (callFunc 45 #[.float .f64 n]).run Tryd.prog w = .ok (.value (.int .u64 n)) w := by
  rw [run_callFunc_extern Tryd.func45 (by kernel_rfl) (by kernel_rfl) (by kernel_rfl) (e := Extern.MathFloatBits.float64bits) (by kernel_rfl)]
  rfl
theorem words33 (x y : Nat) (w : World) : Calls Tryd.prog 33 #[.complex .f64 x y] w fun e w' => e = .returned (.tuple #[.int .u64 x, .int .u64 y]) ∧ w = w' := by
  have hb := bits
  go_enter Tryd.func33, Tryd.ntmps33
  go_wp2
  go_ret2
  exact ⟨rfl, rfl⟩
theorem words35 (x y : Nat) (w : World) : Calls Tryd.prog 35 #[.complex .f64 x y] w fun e w' => e = .returned (.tuple #[.int .u64 x, .int .u64 y]) ∧ w = w' := by
  have hb := bits
  go_enter Tryd.func35, Tryd.ntmps35
  go_wp2
  go_ret2
  exact ⟨rfl, rfl⟩
theorem of32 (x y : Int) (w : World) : Calls Tryd.prog 32 #[.int .u64 x, .int .u64 y] w fun e w' => e = .returned (.complex .f64 x.toNat y.toNat) ∧ w = w' := by
  have hb := frombits
  go_enter Tryd.func32, Tryd.ntmps32
  go_wp2
  go_ret
  exact ⟨rfl, rfl⟩
theorem of19 (x y : Int) (w : World) : Calls Tryd.prog 19 #[.int .u64 x, .int .u64 y] w fun e w' => e = .returned (.complex .f64 x.toNat y.toNat) ∧ w = w' := by
  have hb := frombits
  go_enter Tryd.func19, Tryd.ntmps19
  go_wp2
  go_ret
  exact ⟨rfl, rfl⟩
theorem int_any (n : Int) (w : World) : Calls Tryd.prog 17 #[.int .i64 n] w (VPost ⟨1, n, 0, 0, 0⟩ w) := by
  have hz := hz24'
  obtain ⟨w2, h1, h2, h3⟩ := stored w ⟨1, n, 0, 0, 0⟩
  have H1 := Lib.hid h1
  have H3 := Lib.hid h3
  have HT := Lib.hid (there5 (x := z5) (heap_alloc_new w (.cells #[.int .i64 0, .int .i64 0, .int .u64 0, .int .u64 0, .int .i64 0] 24)))
  have H2 := Lib.hid h2
  clear h1 h2 h3
  go_enter Tryd.func17, Tryd.ntmps17
  go_wp2_with (refine store_named (P := Tryd.prog) rfl 24 (.tmp 2) (.tmp 4) rfl w.heap.size 0 #[.int .i64 1, .int .i64 (n), .int .u64 0, .int .u64 0, .int .i64 0] rfl rfl HT.out infoV (one5 _ _ _ _ _) H1.out ?_)
  (try simp only [Exit.inBlock, Exit.then])
  refine bodyPost_ret (results_cell_row rfl _ _ w.heap.size 24 _ (0, 0) _ rfl H2.out Tryd.underlying24 rfl infoV) rfl ?_
  exact ⟨rfl, H3.out⟩
theorem ref_any (n : Int) (w : World) : Calls Tryd.prog 20 #[.int .i64 n] w (VPost ⟨3, 0, 0, 0, n⟩ w) := by
  have hz := hz24'
  obtain ⟨w2, h1, h2, h3⟩ := stored w ⟨3, 0, 0, 0, n⟩
  have H1 := Lib.hid h1
  have H3 := Lib.hid h3
  have HT := Lib.hid (there5 (x := z5) (heap_alloc_new w (.cells #[.int .i64 0, .int .i64 0, .int .u64 0, .int .u64 0, .int .i64 0] 24)))
  have H2 := Lib.hid h2
  clear h1 h2 h3
  go_enter Tryd.func20, Tryd.ntmps20
  go_wp2_with (refine store_named (P := Tryd.prog) rfl 24 (.tmp 2) (.tmp 4) rfl w.heap.size 0 #[.int .i64 3, .int .i64 0, .int .u64 0, .int .u64 0, .int .i64 (n)] rfl rfl HT.out infoV (one5 _ _ _ _ _) H1.out ?_)
  (try simp only [Exit.inBlock, Exit.then])
  refine bodyPost_ret (results_cell_row rfl _ _ w.heap.size 24 _ (0, 0) _ rfl H2.out Tryd.underlying24 rfl infoV) rfl ?_
  exact ⟨rfl, H3.out⟩
theorem nil_any (w : World) : Calls Tryd.prog 23 #[] w (VPost ⟨0, 0, 0, 0, 0⟩ w) := by
  have hz := hz24'
  obtain ⟨w2, h1, h2, h3⟩ := stored w ⟨0, 0, 0, 0, 0⟩
  have H1 := Lib.hid h1
  have H3 := Lib.hid h3
  have HT := Lib.hid (there5 (x := z5) (heap_alloc_new w (.cells #[.int .i64 0, .int .i64 0, .int .u64 0, .int .u64 0, .int .i64 0] 24)))
  have H2 := Lib.hid h2
  clear h1 h2 h3
  go_enter Tryd.func23, Tryd.ntmps23
  go_wp2_with (refine store_named (P := Tryd.prog) rfl 24 (.tmp 0) (.tmp 1) rfl w.heap.size 0 #[.int .i64 0, .int .i64 0, .int .u64 0, .int .u64 0, .int .i64 0] rfl rfl HT.out infoV (one5 _ _ _ _ _) H1.out ?_)
  (try simp only [Exit.inBlock, Exit.then])
  refine bodyPost_ret (results_cell_row rfl _ _ w.heap.size 24 _ (0, 0) _ rfl H2.out Tryd.underlying24 rfl infoV) rfl ?_
  exact ⟨rfl, H3.out⟩
theorem complex_any (x y : Nat) (w : World) : Calls Tryd.prog 18 #[.complex .f64 x y] w (VPost ⟨2, 0, x, y, 0⟩ w) := by
  have hz := hz24'
  obtain ⟨w2, h1, h2, h3⟩ := stored w ⟨2, 0, x, y, 0⟩
  have H1 := Lib.hid h1
  have H3 := Lib.hid h3
  have HT := Lib.hid (there5 (x := z5) (heap_alloc_new w (.cells #[.int .i64 0, .int .i64 0, .int .u64 0, .int .u64 0, .int .i64 0] 24)))
  have H2 := Lib.hid h2
  clear h1 h2 h3
  go_enter Tryd.func18, Tryd.ntmps18
  go_wp2_with (first | (go_at_call 33; refine (words33 _ _ _).mono ?_; rintro e w' ⟨rfl, rfl⟩) | (refine store_named (P := Tryd.prog) rfl 24 (.tmp 2) (.tmp 12) rfl w.heap.size 0 #[.int .i64 2, .int .i64 0, .int .u64 (x), .int .u64 (y), .int .i64 0] rfl rfl HT.out infoV (one5 _ _ _ _ _) H1.out ?_))
  (try simp only [Exit.inBlock, Exit.then])
  refine bodyPost_ret (results_cell_row rfl _ _ w.heap.size 24 _ (0, 0) _ rfl H2.out Tryd.underlying24 rfl infoV) rfl ?_
  exact ⟨rfl, H3.out⟩
theorem num_any (kd n re im ref : Int) (w : World) : Calls Tryd.prog 21 #[agg5 ⟨kd, n, re, im, ref⟩] w fun e w' => e = .returned (.tuple #[.complex .f64 (if kd = 2 then re.toNat else 0) (if kd = 2 then im.toNat else 0), .bool (decide (kd = 2))]) ∧ Below w.heap.size w w' := by
  unfold agg5
  dsimp only
  by_cases h : kd = 2
  · subst h
    simp only [if_true, decide_true]
    go_enter Tryd.func21, Tryd.ntmps21
    go_wp2_with (go_at_call 32; refine (of32 _ _ _).mono ?_; rintro e w' ⟨rfl, rfl⟩)
    go_ret2
    exact ⟨rfl, bel_one _ _⟩
  · rw [if_neg h, if_neg h, show decide (kd = 2) = false by simpa using h]
    go_enter Tryd.func21, Tryd.ntmps21
    go_wp2
    go_ret2
    exact ⟨rfl, bel_one _ _⟩
theorem same_any (x y u v : Nat) (w : World) : Calls Tryd.prog 22 #[.complex .f64 x y, .complex .f64 u v] w fun e w' => e = .returned (.bool (decide (x = u ∧ y = v))) ∧ w = w' := by
  by_cases h1 : x = u
  · subst h1
    by_cases h2 : y = v
    · subst h2
      rw [show decide (x = x ∧ y = y) = true by simp]
      go_enter Tryd.func22, Tryd.ntmps22
      go_wp2_with (go_at_call 35; refine (words35 _ _ _).mono ?_; rintro e w' ⟨rfl, rfl⟩)
      go_ret
      exact ⟨rfl, rfl⟩
    · have k1 : ((y : Int) == (v : Int)) = false := by rw [beq_eq_false_iff_ne]; omega
      rw [show decide (x = x ∧ y = v) = false by simp [h2]]
      go_enter Tryd.func22, Tryd.ntmps22
      go_wp2_with (go_at_call 35; refine (words35 _ _ _).mono ?_; rintro e w' ⟨rfl, rfl⟩)
      go_ret
      exact ⟨rfl, rfl⟩
  · have k1 : ((x : Int) == (u : Int)) = false := by rw [beq_eq_false_iff_ne]; omega
    rw [show decide (x = u ∧ y = v) = false by simp [h1]]
    go_enter Tryd.func22, Tryd.ntmps22
    go_wp2_with (go_at_call 35; refine (words35 _ _ _).mono ?_; rintro e w' ⟨rfl, rfl⟩)
    go_ret
    exact ⟨rfl, rfl⟩
def sameV (a b : V5) : Bool := decide (a.kd = b.kd) && (if a.kd = 0 then true else if a.kd = 1 then decide (a.n = b.n) else if a.kd = 2 then decide (a.re = b.re) && decide (a.im = b.im) else if a.kd = 3 then decide (a.ref = b.ref) else false)
theorem samev_any (a1 a2 a3 a4 a5 b1 b2 b3 b4 b5 : Int) (w : World) : Calls Tryd.prog 15 #[agg5 ⟨a1, a2, a3, a4, a5⟩, agg5 ⟨b1, b2, b3, b4, b5⟩] w fun e w' => e = .returned (.bool (sameV ⟨a1, a2, a3, a4, a5⟩ ⟨b1, b2, b3, b4, b5⟩)) ∧ Below w.heap.size w w' := by
  obtain ⟨r, hr⟩ : ∃ r, sameV ⟨a1, a2, a3, a4, a5⟩ ⟨b1, b2, b3, b4, b5⟩ = r := ⟨_, rfl⟩
  rw [hr]
  unfold sameV at hr
  dsimp only at hr
  unfold agg5
  dsimp only
  by_cases h0 : a1 = b1
  · subst h0
    by_cases h1 : a1 = 0
    · subst h1
      obtain rfl : true = r := by rw [← hr]; simp
      clear hr
      go_enter Tryd.func15, Tryd.ntmps15
      go_wp2
      go_ret
      exact ⟨rfl, bel_two _ _ _⟩
    · by_cases h2 : a1 = 1
      · subst h2
        by_cases h3 : a2 = b2
        · subst h3
          obtain rfl : true = r := by rw [← hr]; simp
          clear hr
          go_enter Tryd.func15, Tryd.ntmps15
          go_wp2
          go_ret
          exact ⟨rfl, bel_two _ _ _⟩
        · have k1 : (a2 == b2) = false := by rw [beq_eq_false_iff_ne]; exact h3
          obtain rfl : false = r := by rw [← hr]; simp [h3]
          clear hr
          go_enter Tryd.func15, Tryd.ntmps15
          go_wp2
          go_ret
          exact ⟨rfl, bel_two _ _ _⟩
      · by_cases h3 : a1 = 2
        · subst h3
          by_cases h4 : a3 = b3
          · subst h4
            by_cases h5 : a4 = b4
            · subst h5
              obtain rfl : true = r := by rw [← hr]; simp
              clear hr
              go_enter Tryd.func15, Tryd.ntmps15
              go_wp2
              go_ret
              exact ⟨rfl, bel_two _ _ _⟩
            · have k1 : (a4 == b4) = false := by rw [beq_eq_false_iff_ne]; exact h5
              obtain rfl : false = r := by rw [← hr]; simp [h5]
              clear hr
              go_enter Tryd.func15, Tryd.ntmps15
              go_wp2
              go_ret
              exact ⟨rfl, bel_two _ _ _⟩
          · have k1 : (a3 == b3) = false := by rw [beq_eq_false_iff_ne]; exact h4
            obtain rfl : false = r := by rw [← hr]; simp [h4]
            clear hr
            go_enter Tryd.func15, Tryd.ntmps15
            go_wp2
            go_ret
            exact ⟨rfl, bel_two _ _ _⟩
        · by_cases h4 : a1 = 3
          · subst h4
            by_cases h5 : a5 = b5
            · subst h5
              obtain rfl : true = r := by rw [← hr]; simp
              clear hr
              go_enter Tryd.func15, Tryd.ntmps15
              go_wp2
              go_ret
              exact ⟨rfl, bel_two _ _ _⟩
            · have k1 : (a5 == b5) = false := by rw [beq_eq_false_iff_ne]; exact h5
              obtain rfl : false = r := by rw [← hr]; simp [h5]
              clear hr
              go_enter Tryd.func15, Tryd.ntmps15
              go_wp2
              go_ret
              exact ⟨rfl, bel_two _ _ _⟩
          · have k1 : (a1 == 0) = false := by rw [beq_eq_false_iff_ne]; exact h1
            have k2 : (a1 == 1) = false := by rw [beq_eq_false_iff_ne]; exact h2
            have k3 : (a1 == 2) = false := by rw [beq_eq_false_iff_ne]; exact h3
            have k4 : (a1 == 3) = false := by rw [beq_eq_false_iff_ne]; exact h4
            obtain rfl : false = r := by rw [← hr]; simp [h1, h2, h3, h4]
            clear hr
            go_enter Tryd.func15, Tryd.ntmps15
            go_wp2
            go_ret
            exact ⟨rfl, bel_two _ _ _⟩
  · have k1 : (a1 != b1) = true := by simpa using h0
    obtain rfl : false = r := by rw [← hr]; simp [h0]
    clear hr
    go_enter Tryd.func15, Tryd.ntmps15
    go_wp2
    go_ret
    exact ⟨rfl, bel_two _ _ _⟩
theorem vsame_any (a1 a2 a3 a4 a5 b1 b2 b3 b4 b5 : Int) (w : World) : Calls Tryd.prog 24 #[agg5 ⟨a1, a2, a3, a4, a5⟩, agg5 ⟨b1, b2, b3, b4, b5⟩] w fun e w' => e = .returned (.bool (sameV ⟨a1, a2, a3, a4, a5⟩ ⟨b1, b2, b3, b4, b5⟩)) ∧ Below w.heap.size w w' := by
  obtain ⟨r, hr⟩ : ∃ r, sameV ⟨a1, a2, a3, a4, a5⟩ ⟨b1, b2, b3, b4, b5⟩ = r := ⟨_, rfl⟩
  rw [hr]
  unfold sameV at hr
  dsimp only at hr
  unfold agg5
  dsimp only
  by_cases h0 : a1 = b1
  · subst h0
    by_cases h1 : a1 = 0
    · subst h1
      obtain rfl : true = r := by rw [← hr]; simp
      clear hr
      go_enter Tryd.func24, Tryd.ntmps24
      go_wp2
      go_ret
      exact ⟨rfl, bel_two _ _ _⟩
    · by_cases h2 : a1 = 1
      · subst h2
        by_cases h3 : a2 = b2
        · subst h3
          obtain rfl : true = r := by rw [← hr]; simp
          clear hr
          go_enter Tryd.func24, Tryd.ntmps24
          go_wp2
          go_ret
          exact ⟨rfl, bel_two _ _ _⟩
        · have k1 : (a2 == b2) = false := by rw [beq_eq_false_iff_ne]; exact h3
          obtain rfl : false = r := by rw [← hr]; simp [h3]
          clear hr
          go_enter Tryd.func24, Tryd.ntmps24
          go_wp2
          go_ret
          exact ⟨rfl, bel_two _ _ _⟩
      · by_cases h3 : a1 = 2
        · subst h3
          by_cases h4 : a3 = b3
          · subst h4
            by_cases h5 : a4 = b4
            · subst h5
              obtain rfl : true = r := by rw [← hr]; simp
              clear hr
              go_enter Tryd.func24, Tryd.ntmps24
              go_wp2
              go_ret
              exact ⟨rfl, bel_two _ _ _⟩
            · have k1 : (a4 == b4) = false := by rw [beq_eq_false_iff_ne]; exact h5
              obtain rfl : false = r := by rw [← hr]; simp [h5]
              clear hr
              go_enter Tryd.func24, Tryd.ntmps24
              go_wp2
              go_ret
              exact ⟨rfl, bel_two _ _ _⟩
          · have k1 : (a3 == b3) = false := by rw [beq_eq_false_iff_ne]; exact h4
            obtain rfl : false = r := by rw [← hr]; simp [h4]
            clear hr
            go_enter Tryd.func24, Tryd.ntmps24
            go_wp2
            go_ret
            exact ⟨rfl, bel_two _ _ _⟩
        · by_cases h4 : a1 = 3
          · subst h4
            by_cases h5 : a5 = b5
            · subst h5
              obtain rfl : true = r := by rw [← hr]; simp
              clear hr
              go_enter Tryd.func24, Tryd.ntmps24
              go_wp2
              go_ret
              exact ⟨rfl, bel_two _ _ _⟩
            · have k1 : (a5 == b5) = false := by rw [beq_eq_false_iff_ne]; exact h5
              obtain rfl : false = r := by rw [← hr]; simp [h5]
              clear hr
              go_enter Tryd.func24, Tryd.ntmps24
              go_wp2
              go_ret
              exact ⟨rfl, bel_two _ _ _⟩
          · have k1 : (a1 == 0) = false := by rw [beq_eq_false_iff_ne]; exact h1
            have k2 : (a1 == 1) = false := by rw [beq_eq_false_iff_ne]; exact h2
            have k3 : (a1 == 2) = false := by rw [beq_eq_false_iff_ne]; exact h3
            have k4 : (a1 == 3) = false := by rw [beq_eq_false_iff_ne]; exact h4
            obtain rfl : false = r := by rw [← hr]; simp [h1, h2, h3, h4]
            clear hr
            go_enter Tryd.func24, Tryd.ntmps24
            go_wp2
            go_ret
            exact ⟨rfl, bel_two _ _ _⟩
  · have k1 : (a1 != b1) = true := by simpa using h0
    obtain rfl : false = r := by rw [← hr]; simp [h0]
    clear hr
    go_enter Tryd.func24, Tryd.ntmps24
    go_wp2
    go_ret
    exact ⟨rfl, bel_two _ _ _⟩
end Go.Proofs.YtacfddlclbelmaaDoor.Vb
