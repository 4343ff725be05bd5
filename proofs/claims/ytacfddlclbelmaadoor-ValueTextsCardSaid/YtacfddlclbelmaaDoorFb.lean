/-
  strconv.FormatUint at base 16.
-/
import Derived.Test.YtacfddlclbelmaaDoorPs
import Derived.Lib.LaidTab
namespace Go.Proofs.YtacfddlclbelmaaDoor.Fb
open Go.RowKit Go.Proofs.YtacfddlclbelmaaDoor.Ba Go.Proofs.YtacfddlclbelmaaDoor.Va Go.Proofs.YtacfddlclbelmaaDoor.Vb Go.Proofs.YtacfddlclbelmaaDoor.Tx Go.Proofs.YtacfddlclbelmaaDoorW.PrintWords
set_option linter.unusedVariables false
set_option linter.unusedSimpArgs false
set_option maxRecDepth 100000
set_option maxHeartbeats 8000000
/-- The cell of math/bits' table that is read: behind 16 stands 4. -/
def Tz (w : World) : Prop := w.cell? ⟨5, 15, none⟩ = some (.int .u8 4)
theorem Tz.below {w w' : World} (h : Tz w) (hb : Below w.heap.size w w') : Tz w' := cell_old h hb.block
theorem tz64 (w : World) (h : Tz w) : Calls Tryd.prog 78 #[.int .u64 16] w fun e w' => e = .returned (.int .i64 4) ∧ w = w' := by
  unfold Tz at h
  have hv : IntKind.u64.wrap (Go.bits BinOp.and IntKind.u64 16 (IntKind.u64.wrap (-16)) * 285870213051353865) / 288230376151711744 = 15 := by decide +kernel
  go_enter Tryd.func78, Tryd.ntmps78
  go_wp2
  go_ret
  exact ⟨rfl, rfl⟩
theorem tz71 (w : World) (h : Tz w) : Calls Tryd.prog 71 #[.int .u64 16] w fun e w' => e = .returned (.int .i64 4) ∧ w = w' := by
  have HT := Lib.hid h
  clear h
  go_enter Tryd.func71, Tryd.ntmps71
  go_wp2_with (go_at_call 78; refine (tz64 _ HT.out).mono ?_; rintro e wx ⟨rfl, rfl⟩)
  go_ret
  exact ⟨rfl, rfl⟩
theorem info94 : (Tryd.prog.info? 94).map (·.size) = some 65 := by kernel_rfl
theorem pow70 (w : World) : Calls Tryd.prog 70 #[.int .i64 16] w fun e w' => e = .returned (.bool true) ∧ w = w' := by
  go_enter Tryd.func70, Tryd.ntmps70
  go_wp2
  go_ret
  exact ⟨rfl, rfl⟩
def Z65 : Array Value := (List.replicate 65 (Value.int .u8 0)).toArray
theorem hz94 : ∀ w, (zeroValue 94).run Tryd.prog w = .ok (.agg Z65) w := fun w => by kernel_rfl
/-- The row of 65 bytes, from i on filled. -/
def Rw (w : World) (g i : Nat) (l : List UInt8) : Prop := ∃ cs, w.heap[g]? = some (.cells cs 94 (0, 0)) ∧ cs.size = 65 ∧ i + l.length = 65 ∧ ∀ j, j < l.length → cs[i + j]? = some (byteV (l.getD j 0))
theorem Rw.set {w : World} {g i : Nat} {l : List UInt8} (h : Rw w g (i + 1) l) (c : UInt8) : Rw (w.setCell ⟨g, i, none⟩ (byteV c)) g i (c :: l) := by
  obtain ⟨cs, h1, h2, h3, h4⟩ := h
  refine ⟨_, blk_set h1 i (byteV c), by simp [h2], by simp only [List.length_cons]; omega, fun j hj => ?_⟩
  rcases j with _ | j
  · rw [Nat.add_zero, List.getD_cons_zero, Array.getElem?_setIfInBounds, if_pos rfl, if_pos (by omega)]
  · have := h4 j (by simpa using hj)
    rw [show i + (j + 1) = i + 1 + j by omega, List.getD_cons_succ, Array.getElem?_setIfInBounds, if_neg (by omega), this]
theorem Rw.cell {w : World} {g i : Nat} {l : List UInt8} (h : Rw w g i l) (k : Nat) (hk : k < 65) : ∃ v, w.cell? ⟨g, k, none⟩ = some v := by
  obtain ⟨cs, h1, h2, h3, h4⟩ := h
  refine ⟨cs[k]'(by omega), ?_⟩
  rw [cell_of_row w g k _ 94 (0, 0) h1]
  exact Array.getElem?_eq_getElem (by omega)
theorem Rw.frozen {w : World} {g i : Nat} {l : List UInt8} (h : Rw w g i l) (k : Nat) : w.frozen? ⟨g, k, none⟩ = false := by
  obtain ⟨cs, h1, _⟩ := h
  exact blk_frozen h1 k
theorem Rw.at {w : World} {g i : Nat} {l : List UInt8} (h : Rw w g i l) (j : Nat) (hj : j < l.length) : w.cell? ⟨g, i + j, none⟩ = some (byteV (l.getD j 0)) := by
  obtain ⟨cs, h1, h2, h3, h4⟩ := h
  rw [cell_of_row w g (i + j) _ 94 (0, 0) h1]
  exact h4 j hj
def hexL (u : Nat) : List UInt8 := if h : u < 16 then [digB u] else hexL (u / 16) ++ [digB (u % 16)]
termination_by u
decreasing_by omega
theorem hexL_lo {u : Nat} (h : u < 16) : hexL u = [digB u] := by unfold hexL; rw [dif_pos h]
theorem hexL_hi {u : Nat} (h : ¬ u < 16) : hexL u = hexL (u / 16) ++ [digB (u % 16)] := by rw [hexL, dif_neg h]
theorem and16 (v : Nat) (hv : v < 18446744073709551616) : Go.bits .and .u64 (v : Int) 15 = ((v % 16 : Nat) : Int) := by
  have h := u64_and_nat v 15 hv (by omega)
  rw [show ((15 : Nat) : Int) = 15 from rfl] at h
  rw [h, show (15 : Nat) = 2 ^ 4 - 1 from rfl, Nat.and_two_pow_sub_one_eq_mod]
theorem tbl36 : ∀ d : Fin 16, ((ByteArray.mk #[48, 49, 50, 51, 52, 53, 54, 55, 56, 57, 97, 98, 99, 100, 101, 102, 103, 104, 105, 106, 107, 108, 109, 110, 111, 112, 113, 114, 115, 116, 117, 118, 119, 120, 121, 122])[d.val]'(Nat.lt_of_lt_of_le d.isLt (by decide))) = digB d.val := by decide
theorem dig36 (d : Nat) (h : d < 16) (h' : d < (ByteArray.mk #[48, 49, 50, 51, 52, 53, 54, 55, 56, 57, 97, 98, 99, 100, 101, 102, 103, 104, 105, 106, 107, 108, 109, 110, 111, 112, 113, 114, 115, 116, 117, 118, 119, 120, 121, 122]).size) : Value.int .u8 ((((ByteArray.mk #[48, 49, 50, 51, 52, 53, 54, 55, 56, 57, 97, 98, 99, 100, 101, 102, 103, 104, 105, 106, 107, 108, 109, 110, 111, 112, 113, 114, 115, 116, 117, 118, 119, 120, 121, 122])[d]'h').toNat : Nat) : Int) = byteV (digB d) := by
  rw [tbl36 ⟨d, h⟩]; rfl
theorem rw_new (w : World) : Rw (w.alloc (.cells Z65 94)) w.heap.size 65 [] := ⟨Z65, heap_alloc_new w _, by decide, rfl, fun j hj => absurd hj (by simp)⟩
theorem len94 : Tryd.prog.arrayLen 94 = 65 := by kernel_rfl
theorem elem94 : Tryd.prog.elem 94 = 5 := by kernel_rfl
theorem under94 : Tryd.prog.underlying 94 = some (.array (Tryd.prog.arrayLen 94) (Tryd.prog.elem 94)) := by kernel_rfl
theorem size5 (w : World) : (sizeOf 5).run Tryd.prog w = .ok 1 w := by kernel_rfl
theorem slice94 (g k : Nat) (hk : k < 65) (w : World) : (Instr.sliceAt 94 (.pointer (some ⟨g, 0, none⟩)) (some (.int .i64 (k : Int))) none none).run Tryd.prog w = .ok (.slice (some ⟨g, k, none⟩) (65 - k) (65 - k)) w := by
  rw [run_sliceAt_array_l w 94 ⟨g, 0, none⟩ under94 .i64 (k : Int) (by omega) (by rw [len94]; omega), elem94, size5, len94]
  show Result.ok _ _ = _
  unfold slicedAt
  rw [if_neg (by omega), Int.toNat_natCast, Nat.mul_one, add_plain]
theorem bits_any (u : Nat) (hu : u < 18446744073709551616) (w : World) (h : Tz w) : Calls Tryd.prog 60 #[.slice none 0 0, .int .u64 (u : Int), .int .i64 16, .bool false, .bool false] w fun e w' => e = .returned (.tuple #[.slice none 0 0, .string ⟨(hexL u).toArray⟩]) ∧ Below w.heap.size w w' := by
  have HT := Lib.hid h
  clear h
  obtain ⟨hu', hhu⟩ : ∃ x, hexL u = x := ⟨_, rfl⟩
  rw [hhu]
  have HHU := Lib.hid hhu
  clear hhu
  have hz := hz94
  have HTa := Lib.hid (HT.out.below (bel_one w (.cells Z65 94)))
  obtain ⟨w0, hw0⟩ : ∃ w0, w.alloc (.cells Z65 94) = w0 := ⟨_, rfl⟩
  rw [hw0] at HTa
  go_enter Tryd.func60, Tryd.ntmps60
  go_wp2_with (first | (go_at_call 70; refine (pow70 _).mono ?_; rintro e wx ⟨rfl, rfl⟩) | (go_at_call 71; refine (tz71 _ HTa.out).mono ?_; rintro e wx ⟨rfl, rfl⟩) | fail)
  go_loopw [1, 13] (fun x y wr => ∃ (v i : Nat) (l : List UInt8), x = .int .u64 (v : Int) ∧ y = .int .i64 (i : Int) ∧ Rw wr w.heap.size i l ∧ hexL u = hexL v ++ l ∧ l.length ≤ 15 ∧ v < 16 ^ (16 - l.length) ∧ Below w.heap.size w wr) (fun x _ _ => (intOf x).toNat)
  case atStart => exact ⟨u, 65, [], rfl, rfl, by rw [← hw0]; exact rw_new w, by simp, by simp, by simpa using hu, by rw [← hw0]; exact bel_one w _⟩
  case round =>
    obtain ⟨v, i, l, rfl, rfl, hr, hx, hl, hv, hb⟩ := hrel
    have HR := Lib.hid hr
    have HX := Lib.hid hx
    have HV := Lib.hid hv
    have HB := Lib.hid hb
    have hil : i + l.length = 65 := by obtain ⟨cs, _, _, h, _⟩ := hr; exact h
    have hv64 : v < 18446744073709551616 := Nat.lt_of_lt_of_le hv (Nat.le_trans (Nat.pow_le_pow_right (by omega) (show 16 - l.length ≤ 16 by omega)) (by decide))
    obtain ⟨k, rfl⟩ : ∃ k, i = k + 1 := ⟨i - 1, by omega⟩
    have hk : k < 65 := by omega
    have hwk : IntKind.i64.wrap (((k + 1 : Nat) : Int) - 1) = (k : Int) := by
      rw [show (((k + 1 : Nat) : Int) - 1) = (k : Int) by omega]
      exact Go.IntWalk.i64_in _ (by omega)
    obtain ⟨o, ho⟩ := hr.cell k hk
    have hfz := hr.frozen k
    have hd := and16 v hv64
    have hdl : v % 16 < 16 := Nat.mod_lt _ (by omega)
    clear hr hx hv hb
    by_cases hge : v < 16
    · have hd3 : ((v : Nat) : Int) < 36 := by omega
      have hsl := slice94 w.heap.size k hk
      have hcv : ∀ (W : World) (c : List UInt8), Rw W w.heap.size k c → (Go.convert 72 9 (.slice (some ⟨w.heap.size, k, none⟩) (65 - k) (65 - k))).run Tryd.prog W = .ok (.string ⟨c.toArray⟩) W := by
        intro W c hc
        obtain ⟨cs, h1, h2, h3, h4⟩ := hc
        rw [show 65 - k = c.length by omega]
        refine run_convert_bytes_back W 72 9 5 _ _ c Tryd.underlying72 Tryd.underlying5 Tryd.underlying9 ?_
        intro j hj
        rw [add_at, cell_of_row W _ (k + j) _ 94 (0, 0) h1, h4 j hj]
        unfold byteV
        rw [List.getD_eq_getElem?_getD, List.getElem?_eq_getElem hj]
        rfl
      have hRs := HR.out.set (digB v)
      rw [← dig36 v hge (by show v < 36; omega)] at hRs
      have HRs := Lib.hid hRs
      have hcv2 := hcv _ _ hRs
      have HBs := Lib.hid (HB.out.trans (below_of_grown (grown_set wr w.heap.size k (Value.int .u8 ((((ByteArray.mk #[48, 49, 50, 51, 52, 53, 54, 55, 56, 57, 97, 98, 99, 100, 101, 102, 103, 104, 105, 106, 107, 108, 109, 110, 111, 112, 113, 114, 115, 116, 117, 118, 119, 120, 121, 122])[v]'(by show v < 36; omega)).toNat : Nat) : Int))) (Nat.le_refl _) HB.out.size))
      have HL : Hid (digB v :: l = hu') := Lib.hid (by rw [← HHU.out, HX.out, hexL_lo hge]; rfl)
      clear hcv hRs
      go_wp2
      go_ret2
      rw [← HL.out]
      exact ⟨rfl, HBs.out⟩
    · generalize hdd : v % 16 = d at *
      have HDD := Lib.hid hdd
      clear hdd
      have hd2 : ((d : Nat) : Int) < 36 := by omega
      go_wp2
      rw [dig36 d hdl _]
      refine ⟨⟨v / 16, k, digB d :: l, by congr 1, rfl, HR.out.set (digB d), ?_, ?_, ?_, ?_⟩, ?_⟩
      · rw [HX.out, hexL_hi hge, HDD.out, List.append_assoc]
        rfl
      · have h15 : ¬ l.length = 15 := fun e => by
          have := HV.out
          rw [e] at this
          omega
        simp only [List.length_cons]
        omega
      · have h15 : ¬ l.length = 15 := fun e => by
          have := HV.out
          rw [e] at this
          omega
        have := HV.out
        rw [List.length_cons, show 16 - (l.length + 1) = 15 - l.length by omega]
        rw [show 16 - l.length = (15 - l.length) + 1 by omega, Nat.pow_succ] at this
        omega
      · exact HB.out.trans (below_of_grown (grown_set _ w.heap.size k _) (Nat.le_refl _) HB.out.size)
      · simp only [intOf]
        omega
theorem fmt72 (u : Nat) (hu : u < 18446744073709551616) (w : World) (h : Tz w) : Calls Tryd.prog 72 #[.int .u64 (u : Int), .int .i64 16] w fun e w' => e = .returned (.string ⟨(hexL u).toArray⟩) ∧ Below w.heap.size w w' := by
  have HF := Lib.hid (bits_any u hu w h)
  clear h
  go_enter Tryd.func72, Tryd.ntmps72
  go_wp2_with fail
  refine HF.out.mono ?_
  rintro e w1 ⟨rfl, hb⟩
  have HB := Lib.hid hb
  clear hb
  go_wp2
  go_ret
  exact ⟨rfl, HB.out⟩
theorem fmt61 (u : Nat) (hu : u < 18446744073709551616) (w : World) (h : Tz w) : Calls Tryd.prog 61 #[.int .u64 (u : Int), .int .i64 16] w fun e w' => e = .returned (.string ⟨(hexL u).toArray⟩) ∧ Below w.heap.size w w' := by
  have HF := Lib.hid (fmt72 u hu w h)
  clear h
  go_enter Tryd.func61, Tryd.ntmps61
  go_wp2_with fail
  refine HF.out.mono ?_
  rintro e w1 ⟨rfl, hb⟩
  have HB := Lib.hid hb
  clear hb
  go_wp2
  go_ret
  exact ⟨rfl, HB.out⟩
theorem hexL_len (u k : Nat) (h : u < 16 ^ (k + 1)) : (hexL u).length ≤ k + 1 := by
  induction k generalizing u with
  | zero => rw [hexL_lo (by simpa using h)]; simp
  | succ k ih =>
    by_cases hu : u < 16
    · rw [hexL_lo hu]; simp
    · rw [hexL_hi hu, List.length_append]
      have := ih (u / 16) (by rw [Nat.pow_succ] at h; omega)
      simp only [List.length_cons, List.length_nil]
      omega
theorem hexL_pos (u : Nat) : 1 ≤ (hexL u).length := by
  by_cases hu : u < 16
  · rw [hexL_lo hu]; simp
  · rw [hexL_hi hu, List.length_append]; simp
/-- The k low digits of a number. -/
def lowB (u : Nat) : Nat → List UInt8
  | 0 => []
  | k + 1 => lowB (u / 16) k ++ [digB (u % 16)]
theorem low_zero (k : Nat) : lowB 0 k = List.replicate k 48 := by
  induction k with
  | zero => rfl
  | succ k ih =>
    rw [lowB, Nat.zero_div, ih, List.replicate_succ']
    rfl
/-- Padded with noughts, the digits are the low ones. -/
theorem pad_low (u k : Nat) (h : u < 16 ^ (k + 1)) : List.replicate (k + 1 - (hexL u).length) 48 ++ hexL u = lowB u (k + 1) := by
  induction k generalizing u with
  | zero =>
    have hu : u < 16 := by simpa using h
    rw [hexL_lo hu, lowB, lowB, Nat.mod_eq_of_lt hu]
    rfl
  | succ k ih =>
    by_cases hu : u < 16
    · rw [hexL_lo hu, lowB, Nat.div_eq_of_lt hu, low_zero, Nat.mod_eq_of_lt hu]
      rfl
    · have h2 : u / 16 < 16 ^ (k + 1) := by rw [Nat.pow_succ] at h; omega
      rw [lowB, ← ih (u / 16) h2, hexL_hi hu, List.append_assoc, List.length_append]
      simp only [List.length_cons, List.length_nil]
      rw [show k + 1 + 1 - ((hexL (u / 16)).length + (0 + 1)) = k + 1 - (hexL (u / 16)).length by omega]
theorem low_range (u k : Nat) : lowB u k = (List.range k).map fun j => digB (u / 16 ^ (k - 1 - j) % 16) := by
  induction k generalizing u with
  | zero => rfl
  | succ k ih =>
    rw [lowB, ih, List.range_succ, List.map_append]
    congr 1
    · refine List.map_congr_left fun j hj => ?_
      rw [List.mem_range] at hj
      rw [Nat.div_div_eq_div_mul, show k + 1 - 1 - j = (k - 1 - j) + 1 by omega, Nat.pow_succ, Nat.mul_comm]
    · simp
theorem pad_hex (u : Nat) (h : u < 18446744073709551616) : List.replicate (16 - (hexL u).length) 48 ++ hexL u = hexB u := by
  rw [pad_low u 15 (by simpa using h), low_range]
  rfl
end Go.Proofs.YtacfddlclbelmaaDoor.Fb
