/- Super, the reference's; rows of words compared. -/
import Derived.Test.YtlmlckidgfnhdaaTl
namespace Go.Proofs.Ytlmlckidgfnhdaa.Sr
open Go.RowKit Go.ChangeShapes Go.WideShapes Go.Proofs.YtlmlckidgfnhdaaW.PrintWords Go.Proofs.Ytlmlckidgfnhdaa.Ba Go.Proofs.Ytlmlckidgfnhdaa.Pc Go.Proofs.Ytlmlckidgfnhdaa.My Go.Proofs.Ytlmlckidgfnhdaa.Nw Go.Proofs.Ytlmlckidgfnhdaa.Wb Go.Proofs.Ytlmlckidgfnhdaa.Wd Go.Proofs.Ytlmlckidgfnhdaa.Pp Go.Proofs.Ytlmlckidgfnhdaa.Su Go.Proofs.Ytlmlckidgfnhdaa.Tl
set_option linter.unusedVariables false
set_option linter.unusedSimpArgs false
set_option maxHeartbeats 16000000 in
set_option maxRecDepth 20000 in
theorem rsuper_any (A : Option Addr) (k : Nat) (ks : List (List Int)) (b0 b1 b2 b3 r e l : Nat) (w : World) (hks0 : Ks w A ks) (hk : ks.length ≤ 16) (h0 : b0 ≤ 4096) (h1 : b1 ≤ 4096) (h2 : b2 ≤ 4096) (h3 : b3 ≤ 4096) (h4 : r ≤ 4096) (h5 : e ≤ 4096) (h6 : l ≤ 4096) :
    Calls Try.prog 29 #[.agg #[.slice A ks.length k, .int .i64 (b0 : Int), .int .i64 (b1 : Int), .int .i64 (b2 : Int), .int .i64 (b3 : Int), .int .i64 (r : Int), .int .i64 (e : Int), .int .i64 (l : Int)]] w (SPost (sW r e l b0 b1 b2 b3 ks) w) := by
  have hz54 : ∀ w, (zeroValue 54).run Try.prog w = .ok (.agg #[.slice none 0 0]) w := fun w => by kernel_rfl
  have HB0 := Lib.hid ((Below.refl w.heap.size w).alloc (Nat.le_refl _) (.cells #[.slice A ks.length k, .int .i64 (b0 : Int), .int .i64 (b1 : Int), .int .i64 (b2 : Int), .int .i64 (b3 : Int), .int .i64 (r : Int), .int .i64 (e : Int), .int .i64 (l : Int)] 25))
  have hx0 := heap_alloc_new w (.cells #[.slice A ks.length k, .int .i64 (b0 : Int), .int .i64 (b1 : Int), .int .i64 (b2 : Int), .int .i64 (b3 : Int), .int .i64 (r : Int), .int .i64 (e : Int), .int .i64 (l : Int)] 25)
  obtain ⟨w0, hw0⟩ : ∃ w0, w.alloc (.cells #[.slice A ks.length k, .int .i64 (b0 : Int), .int .i64 (b1 : Int), .int .i64 (b2 : Int), .int .i64 (b3 : Int), .int .i64 (r : Int), .int .i64 (e : Int), .int .i64 (l : Int)] 25) = w0 := ⟨_, rfl⟩
  rw [hw0] at HB0 hx0
  have HX0 := Lib.hid hx0
  have HKS := Lib.hid (hks0.old HB0.out.block)
  have HSW : Hid (sW r e l b0 b1 b2 b3 ks = hd9 r e l b0 b1 b2 b3 ks.length ++ ks.map wordK) := Lib.hid rfl
  have HC : Hid (∀ W, Below w0.heap.size w0 W → W.cell? ⟨w.heap.size, 0, none⟩ = some (.slice A ks.length k) ∧ W.cell? ⟨w.heap.size, 1, none⟩ = some (.int .i64 b0) ∧ W.cell? ⟨w.heap.size, 2, none⟩ = some (.int .i64 b1) ∧ W.cell? ⟨w.heap.size, 3, none⟩ = some (.int .i64 b2) ∧ W.cell? ⟨w.heap.size, 4, none⟩ = some (.int .i64 b3) ∧ W.cell? ⟨w.heap.size, 5, none⟩ = some (.int .i64 r) ∧ W.cell? ⟨w.heap.size, 6, none⟩ = some (.int .i64 e) ∧ W.cell? ⟨w.heap.size, 7, none⟩ = some (.int .i64 l)) :=
    Lib.hid (fun W hb => cells8 (blk_below HX0.out hb))
  obtain ⟨i0, i1, i2, i3⟩ := Pl.idx4 (b0 : Int) b1 b2 b3
  have y0 : IntKind.u64.wrap (b0 : Int) = (b0 : Int) := wrap_nat _ (by omega)
  have y1 : IntKind.u64.wrap (b1 : Int) = (b1 : Int) := wrap_nat _ (by omega)
  have y2 : IntKind.u64.wrap (b2 : Int) = (b2 : Int) := wrap_nat _ (by omega)
  have y3 : IntKind.u64.wrap (b3 : Int) = (b3 : Int) := wrap_nat _ (by omega)
  have y4 : IntKind.u64.wrap (r : Int) = (r : Int) := wrap_nat _ (by omega)
  have y5 : IntKind.u64.wrap (e : Int) = (e : Int) := wrap_nat _ (by omega)
  have y6 : IntKind.u64.wrap (l : Int) = (l : Int) := wrap_nat _ (by omega)
  have y7 : IntKind.u64.wrap (ks.length : Int) = (ks.length : Int) := wrap_nat _ (by omega)
  obtain ⟨p0, p1, p2, p3, p4, p5, p6, p7⟩ := HC.out w0 (Below.refl _ _)
  clear hks0 hx0
  have HB1 : Hid (Below w0.heap.size w0 (w0.alloc (.cells #[.int .u64 8317131967827831151, .int .u64 (r : Int), .int .u64 (e : Int), .int .u64 (l : Int)] 30))) := Lib.hid ((Below.refl _ _).alloc (Nat.le_refl _) _)
  have HO1 : Hid (RU (w0.alloc (.cells #[.int .u64 8317131967827831151, .int .u64 (r : Int), .int .u64 (e : Int), .int .u64 (l : Int)] 30)) w0.heap.size (.slice (some ⟨w0.heap.size, 0, none⟩) 4 4) [8317131967827831151, r, e, l]) := Lib.hid (pw_own_below (lit4 w0 w0.heap.size (Nat.le_refl _) 8317131967827831151 r e l) (Below.refl _ _))
  obtain ⟨q0, q1, q2, q3, q4, q5, q6, q7⟩ := HC.out (w0.alloc (.cells #[.int .u64 8317131967827831151, .int .u64 (r : Int), .int .u64 (e : Int), .int .u64 (l : Int)] 30)) HB1.out
  go_enter Try.func29, Try.ntmps29
  go_wp2
  all_goals
    clear p0 p1 p2 p3 p4 p5 p6 p7
    go_loopw [3, 20] (fun v i wr => (i = .int .i64 0 ∧ RU wr w0.heap.size v [8317131967827831151, r, e, l] ∧ Below w0.heap.size w0 wr) ∨ (i = .int .i64 1 ∧ RU wr w0.heap.size v [8317131967827831151, r, e, l, b0] ∧ Below w0.heap.size w0 wr) ∨ (i = .int .i64 2 ∧ RU wr w0.heap.size v [8317131967827831151, r, e, l, b0, b1] ∧ Below w0.heap.size w0 wr) ∨ (i = .int .i64 3 ∧ RU wr w0.heap.size v [8317131967827831151, r, e, l, b0, b1, b2] ∧ Below w0.heap.size w0 wr) ∨ (i = .int .i64 4 ∧ RU wr w0.heap.size v [8317131967827831151, r, e, l, b0, b1, b2, b3] ∧ Below w0.heap.size w0 wr)) (fun _ i _ => 4 - (intOf i).toNat)
    case atStart => exact .inl ⟨rfl, HO1.out, HB1.out⟩
    case round =>
      clear q0 q1 q2 q3 q4 q5 q6 q7
      rcases hrel with ⟨rfl, ho, hb⟩ | ⟨rfl, ho, hb⟩ | ⟨rfl, ho, hb⟩ | ⟨rfl, ho, hb⟩ | ⟨rfl, ho, hb⟩
      · have HO := Lib.hid ho
        have HB := Lib.hid hb
        clear ho hb
        have hba := (Below.refl wr.heap.size wr).alloc (Nat.le_refl _) (.cells #[.int .u64 (b0 : Int)] 30)
        have HOA := Lib.hid (pw_own_below HO.out hba)
        have HBA := Lib.hid (HB.out.trans (hba.mono HB.out.size))
        have HRD := Lib.hid (one_reads wr b0)
        clear hba
        go_wp2_with (at_builtin; refine print_append_row_of (P := Try.prog) (w0 := w0) (W := wr.alloc (.cells #[.int .u64 (b0 : Int)] 30)) eU 0 w0.heap.size rfl (.tmp 23) (.tmp 26) 37 30 (.int .u64 0) 8 rfl Try.underlying37 infoU rfl (by decide) (fun _ => rfl) _ [8317131967827831151, r, e, l] [b0] (some ⟨wr.heap.size, 0, none⟩) 1 1 rfl rfl HOA.out HRD.out HBA.out HBA.out.size (by simp only [List.length_cons, List.length_nil]; omega) ?_)
        intro v9 w9 ho9 hb9 _ _
        have HO9 : Hid (RU w9 w0.heap.size v9 [8317131967827831151, r, e, l, b0]) := Lib.hid ho9
        clear ho9
        go_wp2
        go_roundw
        case rel => exact .inr (.inl ⟨rfl, HO9.out, hb9⟩)
        case measure => simp [intOf]
      · have HO := Lib.hid ho
        have HB := Lib.hid hb
        clear ho hb
        have hba := (Below.refl wr.heap.size wr).alloc (Nat.le_refl _) (.cells #[.int .u64 (b1 : Int)] 30)
        have HOA := Lib.hid (pw_own_below HO.out hba)
        have HBA := Lib.hid (HB.out.trans (hba.mono HB.out.size))
        have HRD := Lib.hid (one_reads wr b1)
        clear hba
        go_wp2_with (at_builtin; refine print_append_row_of (P := Try.prog) (w0 := w0) (W := wr.alloc (.cells #[.int .u64 (b1 : Int)] 30)) eU 0 w0.heap.size rfl (.tmp 23) (.tmp 26) 37 30 (.int .u64 0) 8 rfl Try.underlying37 infoU rfl (by decide) (fun _ => rfl) _ [8317131967827831151, r, e, l, b0] [b1] (some ⟨wr.heap.size, 0, none⟩) 1 1 rfl rfl HOA.out HRD.out HBA.out HBA.out.size (by simp only [List.length_cons, List.length_nil]; omega) ?_)
        intro v9 w9 ho9 hb9 _ _
        have HO9 : Hid (RU w9 w0.heap.size v9 [8317131967827831151, r, e, l, b0, b1]) := Lib.hid ho9
        clear ho9
        go_wp2
        go_roundw
        case rel => exact .inr (.inr (.inl ⟨rfl, HO9.out, hb9⟩))
        case measure => simp [intOf]
      · have HO := Lib.hid ho
        have HB := Lib.hid hb
        clear ho hb
        have hba := (Below.refl wr.heap.size wr).alloc (Nat.le_refl _) (.cells #[.int .u64 (b2 : Int)] 30)
        have HOA := Lib.hid (pw_own_below HO.out hba)
        have HBA := Lib.hid (HB.out.trans (hba.mono HB.out.size))
        have HRD := Lib.hid (one_reads wr b2)
        clear hba
        go_wp2_with (at_builtin; refine print_append_row_of (P := Try.prog) (w0 := w0) (W := wr.alloc (.cells #[.int .u64 (b2 : Int)] 30)) eU 0 w0.heap.size rfl (.tmp 23) (.tmp 26) 37 30 (.int .u64 0) 8 rfl Try.underlying37 infoU rfl (by decide) (fun _ => rfl) _ [8317131967827831151, r, e, l, b0, b1] [b2] (some ⟨wr.heap.size, 0, none⟩) 1 1 rfl rfl HOA.out HRD.out HBA.out HBA.out.size (by simp only [List.length_cons, List.length_nil]; omega) ?_)
        intro v9 w9 ho9 hb9 _ _
        have HO9 : Hid (RU w9 w0.heap.size v9 [8317131967827831151, r, e, l, b0, b1, b2]) := Lib.hid ho9
        clear ho9
        go_wp2
        go_roundw
        case rel => exact .inr (.inr (.inr (.inl ⟨rfl, HO9.out, hb9⟩)))
        case measure => simp [intOf]
      · have HO := Lib.hid ho
        have HB := Lib.hid hb
        clear ho hb
        have hba := (Below.refl wr.heap.size wr).alloc (Nat.le_refl _) (.cells #[.int .u64 (b3 : Int)] 30)
        have HOA := Lib.hid (pw_own_below HO.out hba)
        have HBA := Lib.hid (HB.out.trans (hba.mono HB.out.size))
        have HRD := Lib.hid (one_reads wr b3)
        clear hba
        go_wp2_with (at_builtin; refine print_append_row_of (P := Try.prog) (w0 := w0) (W := wr.alloc (.cells #[.int .u64 (b3 : Int)] 30)) eU 0 w0.heap.size rfl (.tmp 23) (.tmp 26) 37 30 (.int .u64 0) 8 rfl Try.underlying37 infoU rfl (by decide) (fun _ => rfl) _ [8317131967827831151, r, e, l, b0, b1, b2] [b3] (some ⟨wr.heap.size, 0, none⟩) 1 1 rfl rfl HOA.out HRD.out HBA.out HBA.out.size (by simp only [List.length_cons, List.length_nil]; omega) ?_)
        intro v9 w9 ho9 hb9 _ _
        have HO9 : Hid (RU w9 w0.heap.size v9 [8317131967827831151, r, e, l, b0, b1, b2, b3]) := Lib.hid ho9
        clear ho9
        go_wp2
        go_roundw
        case rel => exact .inr (.inr (.inr (.inr ⟨rfl, HO9.out, hb9⟩)))
        case measure => simp [intOf]
      · have HO := Lib.hid ho
        have HB := Lib.hid hb
        obtain ⟨q0, q1, q2, q3, q4, q5, q6, q7⟩ := HC.out wr hb
        have ho2 := ho
        clear ho hb
        have hba := (Below.refl wr.heap.size wr).alloc (Nat.le_refl _) (.cells #[.int .u64 (ks.length : Int)] 30)
        have HOA := Lib.hid (pw_own_below HO.out hba)
        have HBA := Lib.hid (HB.out.trans (hba.mono HB.out.size))
        have HRD := Lib.hid (one_reads wr ks.length)
        clear hba
        go_wp2_with (at_builtin; refine print_append_row_of (P := Try.prog) (w0 := w0) (W := wr.alloc (.cells #[.int .u64 (ks.length : Int)] 30)) eU 0 w0.heap.size rfl (.tmp 29) (.tmp 34) 37 30 (.int .u64 0) 8 rfl Try.underlying37 infoU rfl (by decide) (fun _ => rfl) _ [8317131967827831151, r, e, l, b0, b1, b2, b3] [ks.length] (some ⟨wr.heap.size, 0, none⟩) 1 1 rfl rfl HOA.out HRD.out HBA.out HBA.out.size (by simp only [List.length_cons, List.length_nil]; omega) ?_)
        intro v9 w9 ho9 hb9 _ _
        have HO9 : Hid (RU w9 w0.heap.size v9 (hd9 r e l b0 b1 b2 b3 ks.length)) := Lib.hid ho9
        have HB9 := Lib.hid hb9
        obtain ⟨c0, c1, c2, c3, c4, c5, c6, c7⟩ := HC.out w9 hb9
        clear ho9 hb9 q0 q1 q2 q3 q4 q5 q6 q7 ho2
        go_wp2
        go_loopw [3, 39] (fun v i wr => ∃ j : Nat, j ≤ ks.length ∧ i = .int .i64 (j : Int) ∧ RU wr w0.heap.size v (hd9 r e l b0 b1 b2 b3 ks.length ++ (ks.take j).map wordK) ∧ Below w0.heap.size w0 wr) (fun _ i _ => ks.length - (intOf i).toNat)
        case atStart => exact ⟨0, by omega, rfl, HO9.out, HB9.out⟩
        case round =>
          obtain ⟨j, hj, rfl, ho, hb⟩ := hrel
          have HO := Lib.hid ho
          have HB := Lib.hid hb
          clear ho c0 c1 c2 c3 c4 c5 c6 c7
          by_cases hlt : j < ks.length
          · obtain ⟨ad, rfl, A1, c1, hc, hl1, hr⟩ := HKS.out.old hb.block j hlt
            have HMS := Lib.hid (map_snoc ks j hlt)
            have hpl : (hd9 r e l b0 b1 b2 b3 ks.length ++ (ks.take j).map wordK).length ≤ 100 := by rw [List.length_append, List.length_map, List.length_take_of_le hj]; simp [hd9]; omega
            obtain ⟨f, hf⟩ : ∃ f, ks.getD j [] = f := ⟨_, rfl⟩
            rw [hf] at hc hl1 hr HMS
            obtain ⟨P, hP⟩ : ∃ P, hd9 r e l b0 b1 b2 b3 ks.length ++ (ks.take j).map wordK = P := ⟨_, rfl⟩
            have HPE : Hid (hd9 r e l b0 b1 b2 b3 ks.length ++ (ks.take (j + 1)).map wordK = P ++ [wordK f]) := Lib.hid (by rw [HMS.out, ← hP, List.append_assoc])
            rw [hP] at HO hpl
            have hbx := (Below.refl wr.heap.size wr).alloc (Nat.le_refl _) (.cells #[.slice A1 f.length c1] 54)
            have HBX := Lib.hid (HB.out.trans (hbx.mono HB.out.size))
            have HOX := Lib.hid (pw_own_below HO.out hbx)
            have HWD := Lib.hid (rword_any A1 c1 f _ (hr.below hbx.block))
            obtain ⟨y, hy⟩ : ∃ y, wordK f = y := ⟨_, rfl⟩
            rw [hy] at HWD HPE
            clear hb hf hr hP hbx hy
            go_wp2_with fail
            refine HWD.out.mono ?_
            rintro e w3 ⟨rfl, hb3⟩
            have HB3 := Lib.hid (HBX.out.trans (hb3.mono HBX.out.size))
            have HO3 := Lib.hid (pw_own_below HOX.out hb3)
            clear hb3
            have hba := (Below.refl w3.heap.size w3).alloc (Nat.le_refl _) (.cells #[.int .u64 (y : Int)] 30)
            have HOA := Lib.hid (pw_own_below HO3.out hba)
            have HBA := Lib.hid (HB3.out.trans (hba.mono HB3.out.size))
            have HRD := Lib.hid (one_reads w3 y)
            clear hba
            go_wp2_with (at_builtin; refine print_append_row_of (P := Try.prog) (w0 := w0) (W := w3.alloc (.cells #[.int .u64 (y : Int)] 30)) eU 0 w0.heap.size rfl (.tmp 43) (.tmp 46) 37 30 (.int .u64 0) 8 rfl Try.underlying37 infoU rfl (by decide) (fun _ => rfl) _ P [y] (some ⟨w3.heap.size, 0, none⟩) 1 1 rfl rfl HOA.out HRD.out HBA.out HBA.out.size (by omega) ?_)
            intro v9 w9 ho9 hb9 _ _
            have HO9 : Hid (RU w9 w0.heap.size v9 (hd9 r e l b0 b1 b2 b3 ks.length ++ (ks.take (j + 1)).map wordK)) := Lib.hid (by rw [HPE.out]; show w9.ownsRow _ 30 1 v9 (P ++ [y]).length _; rw [List.length_append]; exact ho9)
            clear ho9
            go_wp2
            go_roundw
            case rel => exact ⟨j + 1, by omega, by go_num, HO9.out, hb9⟩
            case measure => simp [intOf]; omega
          · obtain rfl : j = ks.length := by omega
            have hoF := HO.out
            rw [List.take_length, ← HSW.out] at hoF
            have HOF := Lib.hid hoF
            clear hoF hb
            go_wp2
            go_ret
            exact ⟨_, rfl, own_weaken HOF.out HB0.out.size, HB0.out.trans (HB.out.mono HB0.out.size)⟩
theorem ne_at {xs ys : List Nat} {k : Nat} (h : xs.getD k 0 ≠ ys.getD k 0) : decide (xs = ys) = false := decide_eq_false (fun e => h (by rw [e]))
set_option maxHeartbeats 4000000 in
set_option maxRecDepth 20000 in
theorem samewords_any (A B : Option Addr) (c d : Nat) (xs ys : List Nat) (w : World) (hx : WR w A xs) (hy : WR w B ys) (h100 : xs.length ≤ 100000) : Calls Try.prog 28 #[.slice A xs.length c, .slice B ys.length d] w (BoolPost (decide (xs = ys)) w) := by
  have HXS := Lib.hid hx
  have HYS := Lib.hid hy
  clear hx hy
  by_cases hl : xs.length = ys.length
  · have HL := Lib.hid hl
    rw [← hl]
    clear hl
    go_enter Try.func28, Try.ntmps28
    go_wp2
    go_loopw [13] (fun i wr => ∃ k : Nat, k ≤ xs.length ∧ i = .int .i64 (k : Int) ∧ (∀ t, t < k → xs.getD t 0 = ys.getD t 0) ∧ Below w.heap.size w wr) (fun i _ => xs.length - (intOf i).toNat)
    case atStart => exact ⟨0, by omega, rfl, fun t ht => by omega, Below.refl _ _⟩
    case round =>
      obtain ⟨k, hk, rfl, hal, hb⟩ := hrel
      have HAL := Lib.hid hal
      have HB := Lib.hid hb
      clear hal
      by_cases hlt : k < xs.length
      · obtain ⟨ad, rfl, hp⟩ := HXS.out.old hb.block k hlt
        obtain ⟨bd, rfl, hq⟩ := HYS.out.old hb.block k (by have := HL.out; omega)
        have HNE := Lib.hid (ne_at (xs := xs) (ys := ys) (k := k))
        have HNX : Hid (xs.getD k 0 = ys.getD k 0 → ∀ t, t < k + 1 → xs.getD t 0 = ys.getD t 0) := Lib.hid (fun h t ht => by
          rcases Nat.lt_or_ge t k with h1 | h1
          · exact HAL.out t h1
          · rw [show t = k by omega]; exact h)
        obtain ⟨x, hx⟩ : ∃ x, xs.getD k 0 = x := ⟨_, rfl⟩
        obtain ⟨y, hy⟩ : ∃ y, ys.getD k 0 = y := ⟨_, rfl⟩
        rw [hx] at hp HNE HNX
        rw [hy] at hq HNE HNX
        clear hx hy hb
        by_cases he : x = y
        · have HN2 := Lib.hid (HNX.out he)
          subst he
          have b0 : ((x : Int) != (x : Int)) = false := by simp
          go_wp2
          go_region
          all_goals
            go_wp2
            go_roundw
            case rel => exact ⟨k + 1, by omega, by go_num, HN2.out, HB.out.drew⟩
            case measure => simp [intOf]; omega
        · have HF := Lib.hid (HNE.out he)
          have b0 : ((x : Int) == (y : Int)) = false := beq_eq_false_iff_ne.2 (by omega)
          have b1 : ((x : Int) != (y : Int)) = true := bne_iff_ne.2 (by omega)
          go_wp2
          go_region
          all_goals
            go_wp2
            go_ret
            rw [HF.out]
            exact ⟨rfl, HB.out.drew⟩
      · obtain rfl : k = xs.length := by omega
        have HT : Hid (decide (xs = ys) = true) := Lib.hid (decide_eq_true (ext_getD HL.out HAL.out))
        go_wp2
        go_ret
        rw [HT.out]
        exact ⟨rfl, HB.out⟩
  · have HF : Hid (decide (xs = ys) = false) := Lib.hid (decide_eq_false (fun e => hl (by rw [e])))
    have b0 : ((xs.length : Int) == (ys.length : Int)) = false := beq_eq_false_iff_ne.2 (by omega)
    have b1 : ((xs.length : Int) != (ys.length : Int)) = true := bne_iff_ne.2 (by omega)
    go_enter Try.func28, Try.ntmps28
    go_wp2
    go_ret
    rw [HF.out]
    exact ⟨rfl, Below.refl _ _⟩
end Go.Proofs.Ytlmlckidgfnhdaa.Sr
