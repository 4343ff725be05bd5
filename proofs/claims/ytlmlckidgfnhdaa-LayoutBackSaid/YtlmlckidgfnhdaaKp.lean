/- Types out of words; the program's and the reference's. -/
import Derived.Test.YtlmlckidgfnhdaaWd
import Derived.Deep.RegionLaw
import Derived.Deep.DeepMust
namespace Go.Proofs.Ytlmlckidgfnhdaa.Kp
open Go.RowKit Go.ChangeShapes Go.WideShapes Go.Proofs.YtlmlckidgfnhdaaW.PrintWords Go.Proofs.Ytlmlckidgfnhdaa.Ba Go.Proofs.Ytlmlckidgfnhdaa.Kw Go.Proofs.Ytlmlckidgfnhdaa.Kx Go.Proofs.Ytlmlckidgfnhdaa.Nw Go.Proofs.Ytlmlckidgfnhdaa.Ow Go.Proofs.Ytlmlckidgfnhdaa.Wb Go.Proofs.Ytlmlckidgfnhdaa.Wd
set_option linter.unusedVariables false
set_option linter.unusedSimpArgs false
def fldA (x i : Nat) : Int := ((x / 2 ^ (4 + 2 * i) % 4 : Nat) : Int)
def flds (x : Nat) : Nat → List Int
  | 0 => []
  | k + 1 => flds x k ++ [fldA x k]
theorem flds_len (x k : Nat) : (flds x k).length = k := by
  induction k with
  | zero => rfl
  | succ k ih => show (flds x k ++ [_]).length = _; rw [List.length_append, ih]; rfl
/-- Is a word a type's? -/
def kP (x : Nat) : Bool := kM (flds x (x % 16)) && decide (wordK (flds x (x % 16)) = x)
theorem info54' : (Try.prog.info? 54).map (·.size) = some 1 := by kernel_rfl
theorem int_M (w : World) (base : Nat) (ok : Nat → Prop) (x : Int) : (Kd.int .i64).M w base ok x [.int .i64 x] := rfl
theorem RI.set {w : World} {base g t : Nat} {v : Value} {l : List Int} {cs : Array Value} (h : RI w base v l) (hb : w.heap[g]? = some (.cells cs t (0, 0))) (ht : 3 ≠ t) (j : Nat) (u : Value) : RI (w.setCell ⟨g, j, none⟩ u) base v l :=
  Kd.R_set h hb (fun q hq => by
    have : q = 3 := by simpa [Kd.int, Kd.scalar] using hq
    rw [this]; exact ht) j u
def KPost (x : Nat) (w : World) (e : Ending) (w' : World) : Prop := Below w.heap.size w w' ∧ ((kP x = true ∧ ∃ v, e = .returned (.tuple #[.agg #[v], .bool true]) ∧ RI w' w.heap.size v (flds x (x % 16))) ∨ (kP x = false ∧ e = .returned (.tuple #[.agg #[.slice none 0 0], .bool false])))
theorem and15 (x : Nat) (hx : x < 18446744073709551616) : bits .and .u64 (x : Int) 15 = ((x % 16 : Nat) : Int) := by
  have := bits_and_u64_nat x 15 hx (by omega)
  rw [show ((15 : Nat) : Int) = 15 from rfl] at this
  rw [this, show (15 : Nat) = 2 ^ 4 - 1 from rfl, Nat.and_two_pow_sub_one_eq_mod]
theorem and3 (x m : Nat) (hx : x < 18446744073709551616) : bits .and .u64 ((x : Int) / 2 ^ m) 3 = ((x / 2 ^ m % 4 : Nat) : Int) := by
  rw [show ((2 : Int) ^ m) = ((2 ^ m : Nat) : Int) by rw [Int.natCast_pow]; rfl, ← Int.natCast_ediv]
  have hd : x / 2 ^ m ≤ x := Nat.div_le_self _ _
  have := bits_and_u64_nat (x / 2 ^ m) 3 (by omega) (by omega)
  rw [show ((3 : Nat) : Int) = 3 from rfl] at this
  rw [this, show (3 : Nat) = 2 ^ 2 - 1 from rfl, Nat.and_two_pow_sub_one_eq_mod]
set_option maxHeartbeats 8000000 in
set_option maxRecDepth 20000 in
theorem kparse_any (x : Nat) (hx : x < 18446744073709551616) (w : World) : Calls Try.prog 38 #[.int .u64 (x : Int)] w (KPost x w) := by
  have hz54 : ∀ w, (zeroValue 54).run Try.prog w = .ok (.agg #[.slice none 0 0]) w := fun w => by kernel_rfl
  obtain ⟨w0, hw0⟩ : ∃ w0, (w.alloc (.cells #[.slice none 0 0] 54)).alloc (.cells #[.slice none 0 0] 54) = w0 := ⟨_, rfl⟩
  have HB0 : Hid (Below w.heap.size w w0) := Lib.hid (by rw [← hw0]; exact ((Below.refl _ _).alloc (Nat.le_refl _) _).alloc (by simp) _)
  have HR0 : Hid (w0.heap[w.heap.size]? = some (.cells #[.slice none 0 0] 54 (0, 0))) := Lib.hid (by rw [← hw0]; exact blk_alloc (heap_alloc_new w _) _)
  have HX0 : Hid (w0.heap[w.heap.size + 1]? = some (.cells #[.slice none 0 0] 54 (0, 0))) := Lib.hid (by rw [← hw0]; exact new2' _ _ _)
  have HKP : Hid (kP x = (kM (flds x (x % 16)) && decide (wordK (flds x (x % 16)) = x))) := Lib.hid rfl
  have HDEF : Hid (∀ e w', Below w.heap.size w w' ∧ ((kP x = true ∧ ∃ v, e = .returned (.tuple #[.agg #[v], .bool true]) ∧ RI w' w.heap.size v (flds x (x % 16))) ∨ (kP x = false ∧ e = .returned (.tuple #[.agg #[.slice none 0 0], .bool false]))) → KPost x w e w') := Lib.hid (fun _ _ h => h)
  have hn16 : x % 16 ≤ 15 := by omega
  have HG4 := Lib.hid (get4 x hx)
  have H15 := Lib.hid (and15 x hx)
  obtain ⟨n, hn⟩ : ∃ n, x % 16 = n := ⟨_, rfl⟩
  rw [hn] at HKP HDEF hn16 HG4 H15
  clear hn
  have hwn : IntKind.i64.wrap (n : Int) = (n : Int) := Go.IntWalk.i64_in _ (by omega)
  have HX := Lib.hid hx
  clear hx
  go_enter Try.func38, Try.ntmps38
  go_wp2_with fail

  refine (HG4.out w0).mono ?_
  rintro e w1 ⟨rfl, rfl⟩
  go_wp2
  go_loopw [9] (fun i wr => ∃ (k : Nat) (v : Value), k ≤ n ∧ i = .int .i64 (k : Int) ∧ RI wr w.heap.size v (flds x k) ∧ wr.heap[w.heap.size]? = some (.cells #[.slice none 0 0] 54 (0, 0)) ∧ wr.heap[w.heap.size + 1]? = some (.cells #[v] 54 (0, 0)) ∧ Below w.heap.size w wr) (fun i _ => n - (intOf i).toNat)
  case atStart => exact ⟨0, _, by omega, rfl, Kd.R_nil _ _ _ _ _, HR0.out, HX0.out, HB0.out⟩
  case round =>
    obtain ⟨k, v, hk, rfl, hri, hbr, hbx, hb⟩ := hrel
    have HRI := Lib.hid hri
    have HBR := Lib.hid hbr
    have HBX := Lib.hid hbx
    have HB := Lib.hid hb
    have hlk := flds_len x k
    obtain ⟨L, hL⟩ : ∃ L, flds x k = L := ⟨_, rfl⟩
    have HLE := Lib.hid hL
    rw [hL] at HRI hlk
    have HLKK := Lib.hid hlk
    have hL15 : L.length ≤ 15 := by omega
    clear hlk
    have hri := HRI.out
    obtain ⟨A5, c5, rfl, hlc, hrd⟩ := hri.reads
    have p0 : wr.cell? ⟨w.heap.size + 1, 0, none⟩ = some (.slice A5 L.length c5) := (blk_cell HBX.out 0).trans rfl
    have f0 := blk_frozen HBX.out 0
    clear hbr hbx hb hri
    by_cases hlt : k < n
    · have HNX : Hid (flds x (k + 1) = L ++ [fldA x k]) := Lib.hid (by rw [← hL]; rfl)
      clear hL
      obtain ⟨m, hm⟩ : ∃ m : Nat, m = 4 + 2 * k := ⟨_, rfl⟩
      have hmi : (4 : Int) + 2 * (k : Int) = (m : Int) := by omega
      have hm60 : m ≤ 60 := by omega
      have HG2 := Lib.hid (get2 x m hm60 HX.out)
      have H3 := Lib.hid (and3 x m HX.out)
      have hf0 : 0 ≤ fldA x k ∧ fldA x k ≤ 3 := by unfold fldA; omega
      have HFE : Hid (((x / 2 ^ m % 4 : Nat) : Int) = fldA x k) := Lib.hid (by rw [hm]; rfl)
      rw [HFE.out] at HG2 H3
      obtain ⟨y, hy⟩ : ∃ y, fldA x k = y := ⟨_, rfl⟩
      rw [hy] at HG2 H3 hf0 HNX
      have hwy : IntKind.i64.wrap y = y := Go.IntWalk.i64_in _ (by omega)
      clear hm HFE hy hrd
      have HRId := Lib.hid (Kd.R_drew HRI.out)
      have HBd := Lib.hid (HB.out.drew)
      have hxa := blk_alloc HBX.out (.cells #[.int .i64 y] 3)
      have p1 : (wr.alloc (.cells #[.int .i64 y] 3)).cell? ⟨w.heap.size + 1, 0, none⟩ = some (.slice A5 L.length c5) := (blk_cell hxa 0).trans rfl
      clear hxa
      have a1 : IntKind.i64.wrap (2 * (k : Int)) = 2 * (k : Int) := Go.IntWalk.i64_in _ (by omega)
      have a2 : IntKind.i64.wrap (m : Int) = (m : Int) := Go.IntWalk.i64_in _ (by omega)
      go_wp2
      go_region_law (first
        | (refine Kd.R_append_step (P := Try.prog) (Kd.int .i64) (w0 := w) (W := wr.drew) w.heap.size (by rfl) (.tmp 13) (.tmp 20) 52 3 (.int .i64 0) 8 (by rfl) Try.underlying52 info3 rfl (by decide) (by decide) _ L y _ (fun _ => True) (fun _ => False) (by rfl) (by rfl) (int_M _ _ _ _) (fun _ h => h.elim) (fun _ _ => trivial) HRId.out HBd.out HBd.out.size (by omega) ?_; intro v8 w8 hr8 hb8 hg8 hat8; obtain ⟨A6, c6, rfl, _, _⟩ := Kd.R_reads hr8; have hbx8 := (hg8.block (w.heap.size + 1) (blk_lt HBX.out) (Kd.R_ne HRId.out (show wr.drew.heap[w.heap.size + 1]? = _ from HBX.out) (by decide))).trans HBX.out; have q0 : w8.cell? ⟨w.heap.size + 1, 0, none⟩ = some (.slice A5 L.length c5) := (blk_cell hbx8 0).trans rfl; have g0 := blk_frozen hbx8 0)
        | (go_simp; go_at_call 53; go_must (refine (HG2.out wr.drew).mono ?_; rintro e w6 ⟨rfl, rfl⟩)))
      all_goals
        simp only [List.length_append, List.length_cons, List.length_nil, Nat.zero_add] at hr8
        have HR8 : Hid (RI w8 w.heap.size (.slice A6 (L.length + 1) c6) (flds x (k + 1))) := Lib.hid (by rw [HNX.out]; exact hr8)
        have HBR8 := Lib.hid ((hg8.block w.heap.size (blk_lt HBR.out) (Kd.R_ne HRId.out (show wr.drew.heap[w.heap.size]? = _ from HBR.out) (by decide))).trans HBR.out)
        have HBX8 := Lib.hid hbx8
        have HB8 := Lib.hid hb8
        clear hr8 hg8 hb8 hat8 hbx8 q0 g0
        go_wp2
        go_roundw
        case rel => exact ⟨k + 1, _, by omega, by go_num, RI.set HR8.out HBX8.out (by decide) 0 _, blk_far HBR8.out (by show w.heap.size ≠ w.heap.size + 1; omega) _, blk_set HBX8.out 0 _, HB8.out.trans (below_of_grown (grown_set _ (w.heap.size + 1) 0 _) (by omega) HB8.out.size)⟩
        case measure => simp [intOf]; omega
    · obtain rfl : k = n := by omega
      have hKM := Lib.hid (kmay_any A5 c5 L wr hrd)
      have HWD := Lib.hid (fun (W : World) (h : Rd W A5 L) => word_any A5 c5 L W h)
      have HRD := Lib.hid hrd
      have HLK : Hid (flds x k = L) := Lib.hid hL
      rw [hL] at HKP
      rw [hL] at HDEF
      clear hrd hL
      have hXs := blk_lt HBX.out
      cases em : kM L
      · rw [em] at hKM HKP
        have HKF : Hid (kP x = false) := Lib.hid (by rw [HKP.out]; rfl)
        clear em
        go_wp2_with fail
        refine hKM.out.mono ?_
        rintro e w1 ⟨rfl, hb1⟩
        have HB1 := Lib.hid (HB.out.trans (hb1.mono HB.out.size))
        have HR1 := Lib.hid (blk_below HBR.out hb1)
        have q0 : w1.cell? ⟨w.heap.size, 0, none⟩ = some (.slice none 0 0) := (blk_cell HR1.out 0).trans rfl
        have g0 := blk_frozen HR1.out 0
        clear hb1
        go_wp2
        (try simp only [Exit.inBlock, Exit.then])
        refine bodyPost_ret (results_ct rfl _ _ w.heap.size 54 _ (0, 0) _ rfl (blk_set HR1.out 0 _) Try.underlying54 rfl info54') rfl ?_
        exact HDEF.out _ _ ⟨HB1.out.trans (below_of_grown (grown_set _ w.heap.size 0 _) (Nat.le_refl _) HB1.out.size), .inr ⟨HKF.out, rfl⟩⟩
      · rw [em] at hKM HKP
        clear em
        go_wp2_with fail
        refine hKM.out.mono ?_
        rintro e w1 ⟨rfl, hb1⟩
        have HB1 := Lib.hid (HB.out.trans (hb1.mono HB.out.size))
        have HR1 := Lib.hid (blk_below HBR.out hb1)
        have HX1 := Lib.hid (blk_below HBX.out hb1)
        have HRI1 := Lib.hid (HRI.out.below hb1)
        have HRD1 := Lib.hid (HRD.out.below hb1.block)
        have q1 : w1.cell? ⟨w.heap.size + 1, 0, none⟩ = some (.slice A5 L.length c5) := (blk_cell HX1.out 0).trans rfl
        clear hb1
        by_cases hwe : wordK L = x
        · have HKT : Hid (kP x = true) := Lib.hid (by rw [HKP.out, hwe]; simp)
          have HWX := Lib.hid (HWD.out w1 HRD1.out)
          rw [hwe] at HWX
          have bn : ((x : Int) != (x : Int)) = false := by simp
          clear hwe
          go_wp2_with fail
          refine HWX.out.mono ?_
          rintro e w2 ⟨rfl, hb2⟩
          have HB2 := Lib.hid (HB1.out.trans (hb2.mono HB1.out.size))
          have HR2 := Lib.hid (blk_below HR1.out hb2)
          have HX2 := Lib.hid (blk_below HX1.out hb2)
          have HRI2 := Lib.hid (HRI1.out.below hb2)
          have r0 : w2.cell? ⟨w.heap.size, 0, none⟩ = some (.slice none 0 0) := (blk_cell HR2.out 0).trans rfl
          have r1 : w2.cell? ⟨w.heap.size + 1, 0, none⟩ = some (.slice A5 L.length c5) := (blk_cell HX2.out 0).trans rfl
          have g0 := blk_frozen HR2.out 0
          clear hb2 q1
          go_wp2
          (try simp only [Exit.inBlock, Exit.then])
          refine bodyPost_ret (results_ct rfl _ _ w.heap.size 54 _ (0, 0) _ rfl (blk_set HR2.out 0 _) Try.underlying54 rfl info54') rfl ?_
          exact HDEF.out _ _ ⟨HB2.out.trans (below_of_grown (grown_set _ w.heap.size 0 _) (Nat.le_refl _) HB2.out.size), .inl ⟨HKT.out, _, rfl, RI.set HRI2.out HR2.out (by decide) 0 _⟩⟩
        · have HKF : Hid (kP x = false) := Lib.hid (by rw [HKP.out]; simp [hwe])
          have HWX := Lib.hid (HWD.out w1 HRD1.out)
          obtain ⟨q, hq⟩ : ∃ q, wordK L = q := ⟨_, rfl⟩
          rw [hq] at HWX hwe
          have bn : ((q : Int) == (x : Int)) = false := beq_eq_false_iff_ne.2 (by omega)
          have bn2 : ((q : Int) != (x : Int)) = true := bne_iff_ne.2 (by omega)
          clear hwe hq
          go_wp2_with fail
          refine HWX.out.mono ?_
          rintro e w2 ⟨rfl, hb2⟩
          have HB2 := Lib.hid (HB1.out.trans (hb2.mono HB1.out.size))
          have HR2 := Lib.hid (blk_below HR1.out hb2)
          have r0 : w2.cell? ⟨w.heap.size, 0, none⟩ = some (.slice none 0 0) := (blk_cell HR2.out 0).trans rfl
          have g0 := blk_frozen HR2.out 0
          clear hb2 q1
          go_wp2
          (try simp only [Exit.inBlock, Exit.then])
          refine bodyPost_ret (results_ct rfl _ _ w.heap.size 54 _ (0, 0) _ rfl (blk_set HR2.out 0 _) Try.underlying54 rfl info54') rfl ?_
          exact HDEF.out _ _ ⟨HB2.out.trans (below_of_grown (grown_set _ w.heap.size 0 _) (Nat.le_refl _) HB2.out.size), .inr ⟨HKF.out, rfl⟩⟩
set_option maxHeartbeats 8000000 in
set_option maxRecDepth 20000 in
theorem rkparse_any (x : Nat) (hx : x < 18446744073709551616) (w : World) : Calls Try.prog 39 #[.int .u64 (x : Int)] w (KPost x w) := by
  have hz54 : ∀ w, (zeroValue 54).run Try.prog w = .ok (.agg #[.slice none 0 0]) w := fun w => by kernel_rfl
  obtain ⟨w0, hw0⟩ : ∃ w0, (w.alloc (.cells #[.slice none 0 0] 54)).alloc (.cells #[.slice none 0 0] 54) = w0 := ⟨_, rfl⟩
  have HB0 : Hid (Below w.heap.size w w0) := Lib.hid (by rw [← hw0]; exact ((Below.refl _ _).alloc (Nat.le_refl _) _).alloc (by simp) _)
  have HR0 : Hid (w0.heap[w.heap.size]? = some (.cells #[.slice none 0 0] 54 (0, 0))) := Lib.hid (by rw [← hw0]; exact blk_alloc (heap_alloc_new w _) _)
  have HX0 : Hid (w0.heap[w.heap.size + 1]? = some (.cells #[.slice none 0 0] 54 (0, 0))) := Lib.hid (by rw [← hw0]; exact new2' _ _ _)
  have HKP : Hid (kP x = (kM (flds x (x % 16)) && decide (wordK (flds x (x % 16)) = x))) := Lib.hid rfl
  have HDEF : Hid (∀ e w', Below w.heap.size w w' ∧ ((kP x = true ∧ ∃ v, e = .returned (.tuple #[.agg #[v], .bool true]) ∧ RI w' w.heap.size v (flds x (x % 16))) ∨ (kP x = false ∧ e = .returned (.tuple #[.agg #[.slice none 0 0], .bool false]))) → KPost x w e w') := Lib.hid (fun _ _ h => h)
  have hn16 : x % 16 ≤ 15 := by omega
  have HG4 := Lib.hid (get4 x hx)
  have H15 := Lib.hid (and15 x hx)
  obtain ⟨n, hn⟩ : ∃ n, x % 16 = n := ⟨_, rfl⟩
  rw [hn] at HKP HDEF hn16 HG4 H15
  clear hn
  have hwn : IntKind.i64.wrap (n : Int) = (n : Int) := Go.IntWalk.i64_in _ (by omega)
  have HX := Lib.hid hx
  clear hx
  have HW0 := Lib.hid hw0
  clear hw0
  have H15o := H15.out
  go_enter Try.func39, Try.ntmps39
  go_wp2
  go_loopw [10] (fun i wr => ∃ (k : Nat) (v : Value), k ≤ n ∧ i = .int .i64 (k : Int) ∧ RI wr w.heap.size v (flds x k) ∧ wr.heap[w.heap.size]? = some (.cells #[.slice none 0 0] 54 (0, 0)) ∧ wr.heap[w.heap.size + 1]? = some (.cells #[v] 54 (0, 0)) ∧ Below w.heap.size w wr) (fun i _ => n - (intOf i).toNat)
  case atStart => exact ⟨0, _, by omega, rfl, Kd.R_nil _ _ _ _ _, by rw [HW0.out]; exact HR0.out, by rw [HW0.out]; exact HX0.out, by rw [HW0.out]; exact HB0.out⟩
  case round =>
    obtain ⟨k, v, hk, rfl, hri, hbr, hbx, hb⟩ := hrel
    have HRI := Lib.hid hri
    have HBR := Lib.hid hbr
    have HBX := Lib.hid hbx
    have HB := Lib.hid hb
    have hlk := flds_len x k
    obtain ⟨L, hL⟩ : ∃ L, flds x k = L := ⟨_, rfl⟩
    have HLE := Lib.hid hL
    rw [hL] at HRI hlk
    have HLKK := Lib.hid hlk
    have hL15 : L.length ≤ 15 := by omega
    clear hlk
    have hri := HRI.out
    obtain ⟨A5, c5, rfl, hlc, hrd⟩ := hri.reads
    have p0 : wr.cell? ⟨w.heap.size + 1, 0, none⟩ = some (.slice A5 L.length c5) := (blk_cell HBX.out 0).trans rfl
    have f0 := blk_frozen HBX.out 0
    clear hbr hbx hb hri
    by_cases hlt : k < n
    · have HNX : Hid (flds x (k + 1) = L ++ [fldA x k]) := Lib.hid (by rw [← hL]; rfl)
      clear hL
      obtain ⟨m, hm⟩ : ∃ m : Nat, m = 4 + 2 * k := ⟨_, rfl⟩
      have hmi : (4 : Int) + 2 * (k : Int) = (m : Int) := by omega
      have hm60 : m ≤ 60 := by omega
      have HG2 := Lib.hid (get2 x m hm60 HX.out)
      have H3 := Lib.hid (and3 x m HX.out)
      have hf0 : 0 ≤ fldA x k ∧ fldA x k ≤ 3 := by unfold fldA; omega
      have HFE : Hid (((x / 2 ^ m % 4 : Nat) : Int) = fldA x k) := Lib.hid (by rw [hm]; rfl)
      rw [HFE.out] at HG2 H3
      obtain ⟨y, hy⟩ : ∃ y, fldA x k = y := ⟨_, rfl⟩
      rw [hy] at HG2 H3 hf0 HNX
      have hwy : IntKind.i64.wrap y = y := Go.IntWalk.i64_in _ (by omega)
      clear hm HFE hy hrd
      have H3o := H3.out
      go_wp2_with (at_builtin; refine Kd.R_append (P := Try.prog) (Kd.int .i64) (w0 := w) (W := wr) w.heap.size rfl (.tmp 14) (.tmp 23) 52 3 (.int .i64 0) 8 rfl Try.underlying52 info3 rfl (by decide) (by decide) _ L y _ (fun _ => True) (fun _ => False) rfl rfl (int_M _ _ _ _) (fun _ h => h.elim) (fun _ _ => trivial) HRI.out HB.out HB.out.size (by omega) ?_)
      intro v8 w8 hr8 hb8 hg8 _
      obtain ⟨A6, c6, rfl, _, _⟩ := Kd.R_reads hr8
      simp only [List.length_append, List.length_cons, List.length_nil, Nat.zero_add] at hr8 ⊢
      have HR8 : Hid (RI w8 w.heap.size (.slice A6 (L.length + 1) c6) (flds x (k + 1))) := Lib.hid (by rw [HNX.out]; exact hr8)
      have HBR8 := Lib.hid ((hg8.block w.heap.size (blk_lt HBR.out) (Kd.R_ne HRI.out HBR.out (by decide))).trans HBR.out)
      have HBX8 := Lib.hid ((hg8.block (w.heap.size + 1) (blk_lt HBX.out) (Kd.R_ne HRI.out HBX.out (by decide))).trans HBX.out)
      have HB8 := Lib.hid hb8
      have q0 : w8.cell? ⟨w.heap.size + 1, 0, none⟩ = some (.slice A5 L.length c5) := (blk_cell HBX8.out 0).trans rfl
      have g0 := blk_frozen HBX8.out 0
      clear hr8 hg8 hb8
      go_wp2
      go_roundw
      case rel => exact ⟨k + 1, _, by omega, by go_num, RI.set HR8.out HBX8.out (by decide) 0 _, blk_far HBR8.out (by show w.heap.size ≠ w.heap.size + 1; omega) _, blk_set HBX8.out 0 _, HB8.out.trans (below_of_grown (grown_set _ (w.heap.size + 1) 0 _) (by omega) HB8.out.size)⟩
      case measure => simp [intOf]; omega
    · obtain rfl : k = n := by omega
      have hKM := Lib.hid (rkmay_any A5 c5 L wr hrd)
      have HWD := Lib.hid (fun (W : World) (h : Rd W A5 L) => rword_any A5 c5 L W h)
      have HRD := Lib.hid hrd
      have HLK : Hid (flds x k = L) := Lib.hid hL
      rw [hL] at HKP
      rw [hL] at HDEF
      clear hrd hL
      have hXs := blk_lt HBX.out
      cases em : kM L
      · rw [em] at hKM HKP
        have HKF : Hid (kP x = false) := Lib.hid (by rw [HKP.out]; rfl)
        clear em
        go_wp2_with fail
        refine hKM.out.mono ?_
        rintro e w1 ⟨rfl, hb1⟩
        have HB1 := Lib.hid (HB.out.trans (hb1.mono HB.out.size))
        have HR1 := Lib.hid (blk_below HBR.out hb1)
        have q0 : w1.cell? ⟨w.heap.size, 0, none⟩ = some (.slice none 0 0) := (blk_cell HR1.out 0).trans rfl
        have g0 := blk_frozen HR1.out 0
        clear hb1
        go_wp2
        (try simp only [Exit.inBlock, Exit.then])
        refine bodyPost_ret (results_ct rfl _ _ w.heap.size 54 _ (0, 0) _ rfl (blk_set HR1.out 0 _) Try.underlying54 rfl info54') rfl ?_
        exact HDEF.out _ _ ⟨HB1.out.trans (below_of_grown (grown_set _ w.heap.size 0 _) (Nat.le_refl _) HB1.out.size), .inr ⟨HKF.out, rfl⟩⟩
      · rw [em] at hKM HKP
        clear em
        go_wp2_with fail
        refine hKM.out.mono ?_
        rintro e w1 ⟨rfl, hb1⟩
        have HB1 := Lib.hid (HB.out.trans (hb1.mono HB.out.size))
        have HR1 := Lib.hid (blk_below HBR.out hb1)
        have HX1 := Lib.hid (blk_below HBX.out hb1)
        have HRI1 := Lib.hid (HRI.out.below hb1)
        have HRD1 := Lib.hid (HRD.out.below hb1.block)
        have q1 : w1.cell? ⟨w.heap.size + 1, 0, none⟩ = some (.slice A5 L.length c5) := (blk_cell HX1.out 0).trans rfl
        clear hb1
        by_cases hwe : wordK L = x
        · have HKT : Hid (kP x = true) := Lib.hid (by rw [HKP.out, hwe]; simp)
          have HWX := Lib.hid (HWD.out w1 HRD1.out)
          rw [hwe] at HWX
          have bn : ((x : Int) != (x : Int)) = false := by simp
          clear hwe
          go_wp2_with fail
          refine HWX.out.mono ?_
          rintro e w2 ⟨rfl, hb2⟩
          have HB2 := Lib.hid (HB1.out.trans (hb2.mono HB1.out.size))
          have HR2 := Lib.hid (blk_below HR1.out hb2)
          have HX2 := Lib.hid (blk_below HX1.out hb2)
          have HRI2 := Lib.hid (HRI1.out.below hb2)
          have r0 : w2.cell? ⟨w.heap.size, 0, none⟩ = some (.slice none 0 0) := (blk_cell HR2.out 0).trans rfl
          have r1 : w2.cell? ⟨w.heap.size + 1, 0, none⟩ = some (.slice A5 L.length c5) := (blk_cell HX2.out 0).trans rfl
          have g0 := blk_frozen HR2.out 0
          clear hb2 q1
          go_wp2
          (try simp only [Exit.inBlock, Exit.then])
          refine bodyPost_ret (results_ct rfl _ _ w.heap.size 54 _ (0, 0) _ rfl (blk_set HR2.out 0 _) Try.underlying54 rfl info54') rfl ?_
          exact HDEF.out _ _ ⟨HB2.out.trans (below_of_grown (grown_set _ w.heap.size 0 _) (Nat.le_refl _) HB2.out.size), .inl ⟨HKT.out, _, rfl, RI.set HRI2.out HR2.out (by decide) 0 _⟩⟩
        · have HKF : Hid (kP x = false) := Lib.hid (by rw [HKP.out]; simp [hwe])
          have HWX := Lib.hid (HWD.out w1 HRD1.out)
          obtain ⟨q, hq⟩ : ∃ q, wordK L = q := ⟨_, rfl⟩
          rw [hq] at HWX hwe
          have bn : ((q : Int) == (x : Int)) = false := beq_eq_false_iff_ne.2 (by omega)
          have bn2 : ((q : Int) != (x : Int)) = true := bne_iff_ne.2 (by omega)
          clear hwe hq
          go_wp2_with fail
          refine HWX.out.mono ?_
          rintro e w2 ⟨rfl, hb2⟩
          have HB2 := Lib.hid (HB1.out.trans (hb2.mono HB1.out.size))
          have HR2 := Lib.hid (blk_below HR1.out hb2)
          have r0 : w2.cell? ⟨w.heap.size, 0, none⟩ = some (.slice none 0 0) := (blk_cell HR2.out 0).trans rfl
          have g0 := blk_frozen HR2.out 0
          clear hb2 q1
          go_wp2
          (try simp only [Exit.inBlock, Exit.then])
          refine bodyPost_ret (results_ct rfl _ _ w.heap.size 54 _ (0, 0) _ rfl (blk_set HR2.out 0 _) Try.underlying54 rfl info54') rfl ?_
          exact HDEF.out _ _ ⟨HB2.out.trans (below_of_grown (grown_set _ w.heap.size 0 _) (Nat.le_refl _) HB2.out.size), .inr ⟨HKF.out, rfl⟩⟩
end Go.Proofs.Ytlmlckidgfnhdaa.Kp
