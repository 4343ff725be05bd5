/- The buffer: Refs, awake. -/
import Derived.Test.YtmdjbldmfmoaaaaBu
namespace Go.Proofs.Ytmdjbldmfmoaaaa.Bw
open Go.RowKit Go.ChangeShapes Go.WideShapes Go.Proofs.YtmdjbldmfmoaaaaW.PrintWords Go.Proofs.Ytmdjbldmfmoaaaa.Ba Go.Proofs.Ytmdjbldmfmoaaaa.Bu
set_option linter.unusedVariables false
def refs1 (x : W8) : List Int := (if (x.kind == 1) = true then [x.obj] else []) ++ (if (x.v.kd == 3) = true then [x.v.ref] else [])
def refsAll (l : List W8) : List Int := l.flatMap refs1
theorem refsAll_snoc (l : List W8) (x : W8) : refsAll (l ++ [x]) = refsAll l ++ refs1 x := by
  unfold refsAll
  rw [List.flatMap_append]
  simp
theorem refs1_le (x : W8) : (refs1 x).length ≤ 2 := by
  unfold refs1
  split <;> split <;> simp
theorem refsAll_le (l : List W8) : (refsAll l).length ≤ 2 * l.length := by
  induction l with
  | nil => simp [refsAll]
  | cons x l ih =>
    have : refsAll (x :: l) = refs1 x ++ refsAll l := by simp [refsAll]
    rw [this, List.length_append, List.length_cons]
    have := refs1_le x
    omega
def RowPost (L : List Int) (w : World) (e : Ending) (w' : World) : Prop := ∃ v, e = .returned v ∧ w'.ownsRow w.heap.size 3 1 v L.length (L.map (Value.int .i64)) ∧ Below w.heap.size w w'
set_option maxHeartbeats 4000000 in
theorem refs_any (B g : Nat) (v : Value) (l : List W8) (w : World) (h : Bf w B g v l) : Calls Try.prog 17 #[.pointer (some ⟨g, 0, none⟩)] w (RowPost (refsAll l) w) := by
  have HF := Lib.hid h
  have h64 := h.2.2.2
  clear h
  go_enter Try.func17, Try.ntmps17
  go_wp2_with fail
  refine (all_any B g v l w HF.out).mono ?_
  rintro e w1 ⟨v1, rfl, hr, hb⟩
  obtain ⟨A, c, rfl, _, hC⟩ := hr.reads
  have HC := Lib.hid hC
  clear hr hC
  go_wp2
  go_loopw [3, 9] (fun v i wr => ∃ k : Nat, k ≤ l.length ∧ i = .int .i64 (k : Int) ∧ wr.ownsRow w1.heap.size 3 1 v (refsAll (l.take k)).length ((refsAll (l.take k)).map (Value.int .i64)) ∧ Below w1.heap.size w1 wr) (fun _ i _ => l.length - (intOf i).toNat)
  case atStart => exact ⟨0, by omega, rfl, own_nil _ _ _ _, Below.refl _ _⟩
  case round =>
    obtain ⟨k, hk, rfl, ho, hb1⟩ := hrel
    by_cases hlt : k < l.length
    · obtain ⟨ad, rfl, hc⟩ := at_W8 (Kd.C_below HC.out hb1) k hlt
      have hll := refsAll_le (l.take k)
      rw [List.length_take] at hll
      have es : refsAll (l.take (k + 1)) = refsAll (l.take k) ++ refs1 (l.getD k z8) := by rw [take_snoc l z8 k hlt, refsAll_snoc]
      have ES := Lib.hid es
      clear es
      obtain ⟨L, hL⟩ : ∃ L, refsAll (l.take k) = L := ⟨_, rfl⟩
      obtain ⟨x, hx⟩ : ∃ x, l.getD k z8 = x := ⟨_, rfl⟩
      rw [hL] at ho hll ES
      rw [hx] at hc ES
      clear hL hx
      have hL128 : L.length ≤ 128 := by omega
      clear hll
      obtain ⟨q0, q1, q2, q3, q4, q5, q6, q7⟩ := hc
      obtain ⟨f0, f1, f2, ⟨f3, f4, f5, f6, f7⟩⟩ := x
      dsimp only at q0 q1 q2 q3 q4 q5 q6 q7
      have HOo := Lib.hid ho
      have hb2 := hb1.alloc hb1.size (.cells #[.int .i64 f0, .int .i64 f1, .int .i64 f2, .int .i64 f3, .int .i64 f4, .int .u64 f5, .int .u64 f6, .int .i64 f7] 31)
      have HO := Lib.hid (ho.alloc (.cells #[.int .i64 f0, .int .i64 f1, .int .i64 f2, .int .i64 f3, .int .i64 f4, .int .u64 f5, .int .u64 f6, .int .i64 f7] 31))
      have HX : Hid (Bx8 (wr.alloc (.cells #[.int .i64 f0, .int .i64 f1, .int .i64 f2, .int .i64 f3, .int .i64 f4, .int .u64 f5, .int .u64 f6, .int .i64 f7] 31)) wr.heap.size ⟨f0, f1, f2, ⟨f3, f4, f5, f6, f7⟩⟩) := Lib.hid (heap_alloc_new wr _)
      have HSZ := Lib.hid (size_al wr (.cells #[.int .i64 f0, .int .i64 f1, .int .i64 f2, .int .i64 f3, .int .i64 f4, .int .u64 f5, .int .u64 f6, .int .i64 f7] 31))
      have hbs := hb1.size
      have HBA := Lib.hid (show w1.heap.size ≤ (wr.alloc (.cells #[.int .i64 f0, .int .i64 f1, .int .i64 f2, .int .i64 f3, .int .i64 f4, .int .u64 f5, .int .u64 f6, .int .i64 f7] 31)).heap.size by rw [size_al]; omega)
      clear ho
      have HE := Lib.hid (show refs1 ⟨f0, f1, f2, ⟨f3, f4, f5, f6, f7⟩⟩ = (if (f0 == 1) = true then [f1] else []) ++ (if (f3 == 3) = true then [f7] else []) from rfl)
      rw [HE.out] at ES
      cases e1 : (f0 == 1)
      · cases e3 : (f3 == 3)
        · rw [e1, e3, if_neg (by decide), if_neg (by decide), List.append_nil, List.append_nil] at ES
          clear HE
          go_wp2
          go_roundw
          case rel => exact ⟨k + 1, by omega, by go_num, by rw [ES.out]; exact HO.out, hb2⟩
          case measure => simp [intOf]; omega
        · rw [e1, e3, if_neg (by decide), if_pos rfl, List.nil_append] at ES
          clear HE
          go_wp2_with (at_builtin; refine print_append_num (P := Try.prog) (w0 := w1) (W := wr.alloc (.cells #[.int .i64 f0, .int .i64 f1, .int .i64 f2, .int .i64 f3, .int .i64 f4, .int .u64 f5, .int .u64 f6, .int .i64 f7] 31)) w1.heap.size rfl (.tmp 25) (.tmp 29) 39 3 .i64 8 rfl Try.underlying39 info3 (by omega) _ L f7 rfl (congrArg (fun n => Value.slice (some ⟨n, 0, none⟩) 1 1) HSZ.out.symm) HO.out hb2 HBA.out ?c1 ?_)
          case c1 => omega
          intro v3 w3 ho3 hb3 _ _
          rw [← ES.out] at ho3
          have HO3 := Lib.hid ho3
          clear ho3
          go_wp2
          go_roundw
          case rel => exact ⟨k + 1, by omega, by go_num, by simpa [ES.out, nums] using HO3.out, hb3⟩
          case measure => simp [intOf]; omega
      · go_wp2_with (at_builtin; refine print_append_num (P := Try.prog) (w0 := w1) (W := wr.alloc (.cells #[.int .i64 f0, .int .i64 f1, .int .i64 f2, .int .i64 f3, .int .i64 f4, .int .u64 f5, .int .u64 f6, .int .i64 f7] 31)) w1.heap.size rfl (.tmp 16) (.tmp 19) 39 3 .i64 8 rfl Try.underlying39 info3 (by omega) _ L f1 rfl (congrArg (fun n => Value.slice (some ⟨n, 0, none⟩) 1 1) HSZ.out.symm) HO.out hb2 HBA.out ?c2 ?_)
        case c2 => omega
        intro v2 w2 ho2 hb3 hg2 _
        have hx2 : Bx8 w2 wr.heap.size ⟨f0, f1, f2, ⟨f3, f4, f5, f6, f7⟩⟩ := (hg2.block _ (by rw [size_al]; omega) (fun e => by have := (HOo.out.lt _ e.symm).2; omega)).trans HX.out
        obtain ⟨p0, p1, p2, p3, p4, p5, p6, p7⟩ := hx2.cells
        have HO2 := Lib.hid ho2
        have hb3s := hb3.size
        clear ho2 hg2 hx2 q0 q1 q2 q3 q4 q5 q6 q7
        cases e3 : (f3 == 3)
        · rw [e1, e3, if_pos rfl, if_neg (by decide), List.append_nil] at ES
          clear HE
          go_wp2
          go_roundw
          case rel => exact ⟨k + 1, by omega, by go_num, by simpa [ES.out, nums] using HO2.out, hb3⟩
          case measure => simp [intOf]; omega
        · rw [e1, e3, if_pos rfl, if_pos rfl] at ES
          clear HE
          have hL1 : (L ++ [f1]).length ≤ 129 := by rw [List.length_append]; simp; omega
          have HO2' : Hid (w2.ownsRow w1.heap.size 3 1 v2 (L ++ [f1]).length (nums .i64 (L ++ [f1]))) := Lib.hid (by simpa using HO2.out)
          obtain ⟨L1, hL1e⟩ : ∃ L1, L ++ [f1] = L1 := ⟨_, rfl⟩
          rw [← List.append_assoc, hL1e] at ES
          rw [hL1e] at HO2' hL1
          clear HO2 hL1e
          go_wp2_with (at_builtin; refine print_append_num (P := Try.prog) (w0 := w1) (W := w2) w1.heap.size rfl (.tmp 25) (.tmp 29) 39 3 .i64 8 rfl Try.underlying39 info3 (by omega) _ L1 f7 rfl rfl HO2'.out hb3 hb3s ?c3 ?_)
          case c3 => omega
          intro v3 w3 ho3 hb4 _ _
          rw [← ES.out] at ho3
          have HO3 := Lib.hid ho3
          clear ho3
          go_wp2
          go_roundw
          case rel => exact ⟨k + 1, by omega, by go_num, by simpa [ES.out, nums] using HO3.out, hb4⟩
          case measure => simp [intOf]; omega
    · obtain rfl : k = l.length := by omega
      rw [List.take_length] at ho
      have HO := Lib.hid (own_weaken ho hb.size)
      have hbf := hb.trans (hb1.mono hb.size)
      clear ho
      go_wp2
      go_ret
      exact ⟨_, rfl, HO.out, hbf⟩
def wa : W8 := ⟨2, 0, 0, ⟨3, 0, 0, 0, 3⟩⟩
def wb : W8 := ⟨2, 0, 1, ⟨0, 0, 0, 0, 0⟩⟩
def wc : W8 := ⟨2, 0, 0, ⟨3, 0, 0, 0, 4⟩⟩
theorem aw3 : putL (putL (putL [] wa) wb) wc = [⟨2, 0, 0, ⟨3, 0, 0, 0, 4⟩⟩, ⟨2, 0, 1, ⟨0, 0, 0, 0, 0⟩⟩] := by decide +kernel
set_option maxHeartbeats 2000000 in
theorem awake_any (w : World) : Calls Try.prog 14 #[] w fun e w' => e = .returned (.bool true) ∧ Below w.heap.size w w' := by
  go_enter Try.func14, Try.ntmps14
  go_wp2_with fail
  refine (new_any w).mono ?_
  rintro e w1 ⟨rfl, rfl⟩
  have hb := (Below.refl w.heap.size w).alloc (Nat.le_refl _) (.cells #[.slice none 0 0] 54)
  have HF := Lib.hid (bf_new w)
  go_wp2_with fail
  refine (ref_any _ _).mono ?_
  rintro e w1 ⟨rfl, cs1, rfl⟩
  have hl := (Below.refl (w.alloc (.cells #[.slice none 0 0] 54)).heap.size (w.alloc (.cells #[.slice none 0 0] 54))).alloc (Nat.le_refl _) (.cells cs1 28)
  have HF1 := Lib.hid (HF.out.later hl)
  have hb1 := hb.trans (hl.mono hb.size)
  clear HF hl hb
  unfold agg5
  dsimp only
  go_wp2_with fail
  refine (put_any w.heap.size w.heap.size _ _ wa _ HF1.out).mono ?_
  rintro e w2 ⟨rfl, v2, hf2, hk2, _⟩
  have hb2 := hb1.trans (hk2.below HF1.out)
  have HF2 := Lib.hid hf2
  clear HF1 hk2 hf2 hb1
  go_wp2_with fail
  refine (put_any w.heap.size w.heap.size _ _ wb _ HF2.out).mono ?_
  rintro e w3 ⟨rfl, v3, hf3, hk3, _⟩
  have hb3 := hb2.trans (hk3.below HF2.out)
  have HF3 := Lib.hid hf3
  clear HF2 hk3 hf3 hb2
  go_wp2_with fail
  refine (ref_any _ _).mono ?_
  rintro e w4 ⟨rfl, cs4, rfl⟩
  have hl := (Below.refl w3.heap.size w3).alloc (Nat.le_refl _) (.cells cs4 28)
  have HF4 := Lib.hid (HF3.out.later hl)
  have hb4 := hb3.trans (hl.mono hb3.size)
  clear HF3 hl hb3
  unfold agg5
  dsimp only
  go_wp2_with fail
  refine (put_any w.heap.size w.heap.size _ _ wc _ HF4.out).mono ?_
  rintro e w5 ⟨rfl, v5, hf5, hk5, _⟩
  have hb5 := hb4.trans (hk5.below HF4.out)
  rw [aw3] at hf5
  have HF5 := Lib.hid hf5
  clear HF4 hk5 hf5 hb4
  go_wp2_with fail
  refine (all_any w.heap.size w.heap.size _ _ _ HF5.out).mono ?_
  rintro e w6 ⟨v6, rfl, hr6, hb6⟩
  have HF6 := Lib.hid (HF5.out.later hb6)
  have hb7 := hb5.trans (hb6.mono hb5.size)
  obtain ⟨A, c, rfl, _, hC⟩ := hr6.reads
  obtain ⟨ad, rfl, hc⟩ := at_W8 hC 0 (by decide)
  obtain ⟨q0, q1, q2, q3, q4, q5, q6, q7⟩ := hc
  have q7' : w6.cell? ⟨ad.block, ad.off + 7, none⟩ = some (.int .i64 4) := q7
  clear hr6 hC q0 q1 q2 q3 q4 q5 q6 q7 hb6 hb5
  go_wp2_with fail
  refine (refs_any w.heap.size w.heap.size _ _ _ HF6.out).mono ?_
  rintro e w8 ⟨v8, rfl, ho8, hb8⟩
  have hb9 := hb7.trans (hb8.mono hb7.size)
  obtain ⟨_, A8, c8, rfl, _⟩ := own_rd ho8
  clear ho8 hb7 hb8
  go_wp2
  go_ret
  exact ⟨rfl, hb9⟩
theorem refs_nil (w : World) : Calls Try.prog 17 #[.pointer none] w fun e w' => e = .returned (.slice none 0 0) ∧ w = w' := by
  go_enter Try.func17, Try.ntmps17
  go_wp2_with fail
  refine (all_nil w).mono ?_
  rintro e w1 ⟨rfl, rfl⟩
  go_wp2
  go_loop [3, 9] (fun v i => v = .slice none 0 0 ∧ i = .int .i64 0) (fun _ i => 0)
  case atStart => exact ⟨rfl, rfl⟩
  case round =>
    obtain ⟨rfl, rfl⟩ := hrel
    go_wp2
    go_ret
    exact ⟨rfl, rfl⟩

end Go.Proofs.Ytmdjbldmfmoaaaa.Bw
