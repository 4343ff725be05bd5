/-
  strconv.FormatUint at base 16; the reference's text of a complex number, of a value.
-/
import Derived.Test.YtdgclpgjoanimaaDoorHx
import Derived.Test.YtdgclpgjoanimaaDoorVt
import Derived.Lib.LaidTab
import Derived.Lib.TrailingZeros
import Derived.IntWalk
import Derived.BigQuiet
import Derived.Deep.QuietTactic
namespace Go.Proofs.YtdgclpgjoanimaaDoor.Fb
open Go.RowKit Go.ChangeShapes Go.WideShapes Go.Proofs.YtdgclpgjoanimaaDoor.Ba Go.Proofs.YtdgclpgjoanimaaDoor.Ld Go.Proofs.YtdgclpgjoanimaaDoor.Hx Go.Proofs.YtdgclpgjoanimaaDoorW.PrintWords
set_option linter.unusedVariables false
set_option linter.unusedSimpArgs false
set_option maxRecDepth 100000
set_option maxHeartbeats 8000000
theorem below_of_grown {a b : World} {g n : Nat} (h : a.grownBy b (some g)) (hg : n ≤ g) (hn : n ≤ a.heap.size) : Below n a b :=
  ⟨h.os, h.tape, h.output, h.size, fun k hk => h.block k (Nat.lt_of_lt_of_le hk hn) (fun e => by cases e; omega)⟩
/-- The cell of math/bits' table that is read: behind 16 stands 4. -/
def Tz (w : World) : Prop := w.cell? ⟨3, 15, none⟩ = some (.int .u8 4)
theorem Tz.below {w w' : World} (h : Tz w) (hb : Below w.heap.size w w') : Tz w' := cell_old h hb.block
theorem tz64 (w : World) (h : Tz w) : Calls Tryd.prog 70 #[.int .u64 16] w fun e w' => e = .returned (.int .i64 4) ∧ w = w' := by
  unfold Tz at h
  have hv : IntKind.u64.wrap (Go.bits BinOp.and IntKind.u64 16 (IntKind.u64.wrap (-16)) * 285870213051353865) / 288230376151711744 = 15 := by decide +kernel
  go_enter Tryd.func70, Tryd.ntmps70
  go_wp2
  go_ret
  exact ⟨rfl, rfl⟩
theorem tz71 (w : World) (h : Tz w) : Calls Tryd.prog 67 #[.int .u64 16] w fun e w' => e = .returned (.int .i64 4) ∧ w = w' := by
  have HT := Lib.hid h
  clear h
  go_enter Tryd.func67, Tryd.ntmps67
  go_wp2_with (go_at_call 70; refine (tz64 _ HT.out).mono ?_; rintro e wx ⟨rfl, rfl⟩)
  go_ret
  exact ⟨rfl, rfl⟩
theorem info94 : (Tryd.prog.info? 90).map (·.size) = some 65 := by kernel_rfl
theorem pow70 (w : World) : Calls Tryd.prog 66 #[.int .i64 16] w fun e w' => e = .returned (.bool true) ∧ w = w' := by
  go_enter Tryd.func66, Tryd.ntmps66
  go_wp2
  go_ret
  exact ⟨rfl, rfl⟩
def Z65 : Array Value := (List.replicate 65 (Value.int .u8 0)).toArray
theorem hz94 : ∀ w, (zeroValue 90).run Tryd.prog w = .ok (.agg Z65) w := fun w => by kernel_rfl
/-- The row of 65 bytes, from i on filled. -/
def Rw (w : World) (g i : Nat) (l : List UInt8) : Prop := ∃ cs, w.heap[g]? = some (.cells cs 90 (0, 0)) ∧ cs.size = 65 ∧ i + l.length = 65 ∧ ∀ j, j < l.length → cs[i + j]? = some (byteV (l.getD j 0))
theorem Rw.set {w : World} {g i : Nat} {l : List UInt8} (h : Rw w g (i + 1) l) (c : UInt8) : Rw (w.setCell ⟨g, i, none⟩ (byteV c)) g i (c :: l) := by
  obtain ⟨cs, h1, h2, h3, h4⟩ := h
  refine ⟨_, blk_set h1 i (byteV c), by simp [h2], by simp only [List.length_cons]; omega, fun j hj => ?_⟩
  rcases j with _ | j
  · rw [Nat.add_zero, List.getD_cons_zero, Array.getElem?_setIfInBounds, if_pos rfl, if_pos (by omega)]
  · have := h4 j (by simpa using hj)
    rw [show i + (j + 1) = i + 1 + j by omega, List.getD_cons_succ, Array.getElem?_setIfInBounds, if_neg (by omega), this]
theorem Rw.cell {w : World} {g i : Nat} {l : List UInt8} (h : Rw w g i l) (k : Nat) (hk : k < 65) : ∃ v, w.cell? ⟨g, k, none⟩ = some v := by
  obtain ⟨cs, h1, h2, h3, h4⟩ := h
  refine ⟨cs[k]'(by omega), ?_⟩
  rw [cell_of_row w g k _ 90 (0, 0) h1]
  exact Array.getElem?_eq_getElem (by omega)
theorem Rw.frozen {w : World} {g i : Nat} {l : List UInt8} (h : Rw w g i l) (k : Nat) : w.frozen? ⟨g, k, none⟩ = false := by
  obtain ⟨cs, h1, _⟩ := h
  exact blk_frozen h1 k
theorem Rw.at {w : World} {g i : Nat} {l : List UInt8} (h : Rw w g i l) (j : Nat) (hj : j < l.length) : w.cell? ⟨g, i + j, none⟩ = some (byteV (l.getD j 0)) := by
  obtain ⟨cs, h1, h2, h3, h4⟩ := h
  rw [cell_of_row w g (i + j) _ 90 (0, 0) h1]
  exact h4 j hj
def hexL (u : Nat) : List UInt8 := if h : u < 16 then [digB u] else hexL (u / 16) ++ [digB (u % 16)]
termination_by u
decreasing_by omega
theorem hexL_lo {u : Nat} (h : u < 16) : hexL u = [digB u] := by unfold hexL; rw [dif_pos h]
theorem hexL_hi {u : Nat} (h : ¬ u < 16) : hexL u = hexL (u / 16) ++ [digB (u % 16)] := by rw [hexL, dif_neg h]
theorem and16 (v : Nat) (hv : v < 18446744073709551616) : Go.bits .and .u64 (v : Int) 15 = ((v % 16 : Nat) : Int) := by
  have h := u64_and_nat v 15 hv (by omega)
  rw [show ((15 : Nat) : Int) = 15 from rfl] at h
  rw [h, show (15 : Nat) = 2 ^ 4 - 1 from rfl, Nat.and_two_pow_sub_one_eq_mod]
theorem tbl36 : ∀ d : Fin 16, ((ByteArray.mk #[48, 49, 50, 51, 52, 53, 54, 55, 56, 57, 97, 98, 99, 100, 101, 102, 103, 104, 105, 106, 107, 108, 109, 110, 111, 112, 113, 114, 115, 116, 117, 118, 119, 120, 121, 122])[d.val]'(Nat.lt_of_lt_of_le d.isLt (by decide))) = digB d.val := by decide
theorem dig36 (d : Nat) (h : d < 16) (h' : d < (ByteArray.mk #[48, 49, 50, 51, 52, 53, 54, 55, 56, 57, 97, 98, 99, 100, 101, 102, 103, 104, 105, 106, 107, 108, 109, 110, 111, 112, 113, 114, 115, 116, 117, 118, 119, 120, 121, 122]).size) : Value.int .u8 ((((ByteArray.mk #[48, 49, 50, 51, 52, 53, 54, 55, 56, 57, 97, 98, 99, 100, 101, 102, 103, 104, 105, 106, 107, 108, 109, 110, 111, 112, 113, 114, 115, 116, 117, 118, 119, 120, 121, 122])[d]'h').toNat : Nat) : Int) = byteV (digB d) := by
  rw [tbl36 ⟨d, h⟩]; rfl
theorem rw_new (w : World) : Rw (w.alloc (.cells Z65 90)) w.heap.size 65 [] := ⟨Z65, heap_alloc_new w _, by decide, rfl, fun j hj => absurd hj (by simp)⟩
theorem len94 : Tryd.prog.arrayLen 90 = 65 := by kernel_rfl
theorem elem94 : Tryd.prog.elem 90 = 5 := by kernel_rfl
theorem under94 : Tryd.prog.underlying 90 = some (.array (Tryd.prog.arrayLen 90) (Tryd.prog.elem 90)) := by kernel_rfl
theorem size5 (w : World) : (sizeOf 5).run Tryd.prog w = .ok 1 w := by kernel_rfl
theorem slice94 (g k : Nat) (hk : k < 65) (w : World) : (Instr.sliceAt 90 (.pointer (some ⟨g, 0, none⟩)) (some (.int .i64 (k : Int))) none none).run Tryd.prog w = .ok (.slice (some ⟨g, k, none⟩) (65 - k) (65 - k)) w := by
  rw [run_sliceAt_array_l w 90 ⟨g, 0, none⟩ under94 .i64 (k : Int) (by omega) (by rw [len94]; omega), elem94, size5, len94]
  show Result.ok _ _ = _
  unfold slicedAt
  rw [if_neg (by omega), Int.toNat_natCast, Nat.mul_one, Go.Proofs.YtdgclpgjoanimaaDoorW.PrintWords.add_plain]
theorem bits_any (u : Nat) (hu : u < 18446744073709551616) (w : World) (h : Tz w) : Calls Tryd.prog 60 #[.slice none 0 0, .int .u64 (u : Int), .int .i64 16, .bool false, .bool false] w fun e w' => e = .returned (.tuple #[.slice none 0 0, .string ⟨(hexL u).toArray⟩]) ∧ Below w.heap.size w w' := by
  have HT := Lib.hid h
  clear h
  obtain ⟨hu', hhu⟩ : ∃ x, hexL u = x := ⟨_, rfl⟩
  rw [hhu]
  have HHU := Lib.hid hhu
  clear hhu
  have hz := hz94
  have HTa := Lib.hid (HT.out.below (bel_one w (.cells Z65 90)))
  obtain ⟨w0, hw0⟩ : ∃ w0, w.alloc (.cells Z65 90) = w0 := ⟨_, rfl⟩
  rw [hw0] at HTa
  go_enter Tryd.func60, Tryd.ntmps60
  go_wp2_with (first | (go_at_call 66; refine (pow70 _).mono ?_; rintro e wx ⟨rfl, rfl⟩) | (go_at_call 67; refine (tz71 _ HTa.out).mono ?_; rintro e wx ⟨rfl, rfl⟩) | fail)
  go_loopw [1, 13] (fun x y wr => ∃ (v i : Nat) (l : List UInt8), x = .int .u64 (v : Int) ∧ y = .int .i64 (i : Int) ∧ Rw wr w.heap.size i l ∧ hexL u = hexL v ++ l ∧ l.length ≤ 15 ∧ v < 16 ^ (16 - l.length) ∧ Below w.heap.size w wr) (fun x _ _ => (intOf x).toNat)
  case atStart => exact ⟨u, 65, [], rfl, rfl, by rw [← hw0]; exact rw_new w, by simp, by simp, by simpa using hu, by rw [← hw0]; exact bel_one w _⟩
  case round =>
    obtain ⟨v, i, l, rfl, rfl, hr, hx, hl, hv, hb⟩ := hrel
    have HR := Lib.hid hr
    have HX := Lib.hid hx
    have HV := Lib.hid hv
    have HB := Lib.hid hb
    have hil : i + l.length = 65 := by obtain ⟨cs, _, _, h, _⟩ := hr; exact h
    have hv64 : v < 18446744073709551616 := Nat.lt_of_lt_of_le hv (Nat.le_trans (Nat.pow_le_pow_right (by omega) (show 16 - l.length ≤ 16 by omega)) (by decide))
    obtain ⟨k, rfl⟩ : ∃ k, i = k + 1 := ⟨i - 1, by omega⟩
    have hk : k < 65 := by omega
    have hwk : IntKind.i64.wrap (((k + 1 : Nat) : Int) - 1) = (k : Int) := by
      rw [show (((k + 1 : Nat) : Int) - 1) = (k : Int) by omega]
      exact Go.IntWalk.i64_in _ (by omega)
    obtain ⟨o, ho⟩ := hr.cell k hk
    have hfz := hr.frozen k
    have hd := and16 v hv64
    have hdl : v % 16 < 16 := Nat.mod_lt _ (by omega)
    clear hr hx hv hb
    by_cases hge : v < 16
    · have hd3 : ((v : Nat) : Int) < 36 := by omega
      have hsl := slice94 w.heap.size k hk
      have hcv : ∀ (W : World) (c : List UInt8), Rw W w.heap.size k c → (Go.convert 47 9 (.slice (some ⟨w.heap.size, k, none⟩) (65 - k) (65 - k))).run Tryd.prog W = .ok (.string ⟨c.toArray⟩) W := by
        intro W c hc
        obtain ⟨cs, h1, h2, h3, h4⟩ := hc
        rw [show 65 - k = c.length by omega]
        refine run_convert_bytes_back W 47 9 5 _ _ c Tryd.underlying47 Tryd.underlying5 Tryd.underlying9 ?_
        intro j hj
        rw [add_at, cell_of_row W _ (k + j) _ 90 (0, 0) h1, h4 j hj]
        unfold byteV
        rw [List.getD_eq_getElem?_getD, List.getElem?_eq_getElem hj]
        rfl
      have hRs := HR.out.set (digB v)
      rw [← dig36 v hge (by show v < 36; omega)] at hRs
      have HRs := Lib.hid hRs
      have hcv2 := hcv _ _ hRs
      have HBs := Lib.hid (HB.out.trans (below_of_grown (grown_set wr w.heap.size k (Value.int .u8 ((((ByteArray.mk #[48, 49, 50, 51, 52, 53, 54, 55, 56, 57, 97, 98, 99, 100, 101, 102, 103, 104, 105, 106, 107, 108, 109, 110, 111, 112, 113, 114, 115, 116, 117, 118, 119, 120, 121, 122])[v]'(by show v < 36; omega)).toNat : Nat) : Int))) (Nat.le_refl _) HB.out.size))
      have HL : Hid (digB v :: l = hu') := Lib.hid (by rw [← HHU.out, HX.out, hexL_lo hge]; rfl)
      clear hcv hRs
      go_wp2
      go_ret2
      rw [← HL.out]
      exact ⟨rfl, HBs.out⟩
    · generalize hdd : v % 16 = d at *
      have HDD := Lib.hid hdd
      clear hdd
      have hd2 : ((d : Nat) : Int) < 36 := by omega
      go_wp2
      rw [dig36 d hdl _]
      refine ⟨⟨v / 16, k, digB d :: l, by congr 1, rfl, HR.out.set (digB d), ?_, ?_, ?_, ?_⟩, ?_⟩
      · rw [HX.out, hexL_hi hge, HDD.out, List.append_assoc]
        rfl
      · have h15 : ¬ l.length = 15 := fun e => by
          have := HV.out
          rw [e] at this
          omega
        simp only [List.length_cons]
        omega
      · have h15 : ¬ l.length = 15 := fun e => by
          have := HV.out
          rw [e] at this
          omega
        have := HV.out
        rw [List.length_cons, show 16 - (l.length + 1) = 15 - l.length by omega]
        rw [show 16 - l.length = (15 - l.length) + 1 by omega, Nat.pow_succ] at this
        omega
      · exact HB.out.trans (below_of_grown (grown_set _ w.heap.size k _) (Nat.le_refl _) HB.out.size)
      · simp only [intOf]
        omega
theorem fmt72 (u : Nat) (hu : u < 18446744073709551616) (w : World) (h : Tz w) : Calls Tryd.prog 68 #[.int .u64 (u : Int), .int .i64 16] w fun e w' => e = .returned (.string ⟨(hexL u).toArray⟩) ∧ Below w.heap.size w w' := by
  have HF := Lib.hid (bits_any u hu w h)
  clear h
  go_enter Tryd.func68, Tryd.ntmps68
  go_wp2_with fail
  refine HF.out.mono ?_
  rintro e w1 ⟨rfl, hb⟩
  have HB := Lib.hid hb
  clear hb
  go_wp2
  go_ret
  exact ⟨rfl, HB.out⟩
theorem fmt61 (u : Nat) (hu : u < 18446744073709551616) (w : World) (h : Tz w) : Calls Tryd.prog 62 #[.int .u64 (u : Int), .int .i64 16] w fun e w' => e = .returned (.string ⟨(hexL u).toArray⟩) ∧ Below w.heap.size w w' := by
  have HF := Lib.hid (fmt72 u hu w h)
  clear h
  go_enter Tryd.func62, Tryd.ntmps62
  go_wp2_with fail
  refine HF.out.mono ?_
  rintro e w1 ⟨rfl, hb⟩
  have HB := Lib.hid hb
  clear hb
  go_wp2
  go_ret
  exact ⟨rfl, HB.out⟩
theorem hexL_len (u k : Nat) (h : u < 16 ^ (k + 1)) : (hexL u).length ≤ k + 1 := by
  induction k generalizing u with
  | zero => rw [hexL_lo (by simpa using h)]; simp
  | succ k ih =>
    by_cases hu : u < 16
    · rw [hexL_lo hu]; simp
    · rw [hexL_hi hu, List.length_append]
      have := ih (u / 16) (by rw [Nat.pow_succ] at h; omega)
      simp only [List.length_cons, List.length_nil]
      omega
theorem hexL_pos (u : Nat) : 1 ≤ (hexL u).length := by
  by_cases hu : u < 16
  · rw [hexL_lo hu]; simp
  · rw [hexL_hi hu, List.length_append]; simp
/-- The k low digits of a number. -/
def lowB (u : Nat) : Nat → List UInt8
  | 0 => []
  | k + 1 => lowB (u / 16) k ++ [digB (u % 16)]
theorem low_zero (k : Nat) : lowB 0 k = List.replicate k 48 := by
  induction k with
  | zero => rfl
  | succ k ih =>
    rw [lowB, Nat.zero_div, ih, List.replicate_succ']
    rfl
/-- Padded with noughts, the digits are the low ones. -/
theorem pad_low (u k : Nat) (h : u < 16 ^ (k + 1)) : List.replicate (k + 1 - (hexL u).length) 48 ++ hexL u = lowB u (k + 1) := by
  induction k generalizing u with
  | zero =>
    have hu : u < 16 := by simpa using h
    rw [hexL_lo hu, lowB, lowB, Nat.mod_eq_of_lt hu]
    rfl
  | succ k ih =>
    by_cases hu : u < 16
    · rw [hexL_lo hu, lowB, Nat.div_eq_of_lt hu, low_zero, Nat.mod_eq_of_lt hu]
      rfl
    · have h2 : u / 16 < 16 ^ (k + 1) := by rw [Nat.pow_succ] at h; omega
      rw [lowB, ← ih (u / 16) h2, hexL_hi hu, List.append_assoc, List.length_append]
      simp only [List.length_cons, List.length_nil]
      rw [show k + 1 + 1 - ((hexL (u / 16)).length + (0 + 1)) = k + 1 - (hexL (u / 16)).length by omega]
theorem low_range (u k : Nat) : lowB u k = (List.range k).map fun j => digB (u / 16 ^ (k - 1 - j) % 16) := by
  induction k generalizing u with
  | zero => rfl
  | succ k ih =>
    rw [lowB, ih, List.range_succ, List.map_append]
    congr 1
    · refine List.map_congr_left fun j hj => ?_
      rw [List.mem_range] at hj
      rw [Nat.div_div_eq_div_mul, show k + 1 - 1 - j = (k - 1 - j) + 1 by omega, Nat.pow_succ, Nat.mul_comm]
    · simp
theorem pad_hex (u : Nat) (h : u < 18446744073709551616) : List.replicate (16 - (hexL u).length) 48 ++ hexL u = hexB u := by
  rw [pad_low u 15 (by simpa using h), low_range]
  rfl
theorem frombits (n : Int) (w : World) : (callFunc 56 #[.int .u64 n]).run Tryd.prog w = .ok (.value (.float .f64 n.toNat)) w := by
  rw [run_callFunc_extern Tryd.func56 (by kernel_rfl) (by kernel_rfl) (by kernel_rfl) (e := Extern.MathFloatBits.float64frombits) (by kernel_rfl)]
  rfl
theorem bits (n : Nat) (w : World) : (callFunc 61 #[.float .f64 n]).run Tryd.prog w = .ok (.value (.int .u64 n)) w := by
  rw [run_callFunc_extern Tryd.func61 (by kernel_rfl) (by kernel_rfl) (by kernel_rfl) (e := Extern.MathFloatBits.float64bits) (by kernel_rfl)]
  rfl
theorem words35 (x y : Nat) (w : World) : Calls Tryd.prog 54 #[.complex .f64 x y] w fun e w' => e = .returned (.tuple #[.int .u64 x, .int .u64 y]) ∧ w = w' := by
  have hb := bits
  go_enter Tryd.func54, Tryd.ntmps54
  go_wp2
  go_ret2
  exact ⟨rfl, rfl⟩
theorem of32 (x y : Int) (w : World) : Calls Tryd.prog 51 #[.int .u64 x, .int .u64 y] w fun e w' => e = .returned (.complex .f64 x.toNat y.toNat) ∧ w = w' := by
  have hb := frombits
  go_enter Tryd.func51, Tryd.ntmps51
  go_wp2
  go_ret
  exact ⟨rfl, rfl⟩
theorem hex_any (u : Nat) (hu : u < 18446744073709551616) (w : World) (h : Tz w) : Calls Tryd.prog 55 #[.int .u64 (u : Int)] w fun e w' => e = .returned (.string ⟨(hexB u).toArray⟩) ∧ Below w.heap.size w w' := by
  have HF := Lib.hid (fmt61 u hu w h)
  have HP := Lib.hid (pad_hex u hu)
  have HLN := Lib.hid (hexL_len u 15 (by simpa using hu))
  have HBL := Lib.hid (hexB_length u)
  obtain ⟨q, hq⟩ : ∃ q, hexB u = q := ⟨_, rfl⟩
  obtain ⟨p, hp⟩ : ∃ p, hexL u = p := ⟨_, rfl⟩
  rw [hq] at HP HBL ⊢
  rw [hp] at HP HF HLN
  clear h hq hp
  go_enter Tryd.func55, Tryd.ntmps55
  go_wp2_with fail
  refine HF.out.mono ?_
  rintro e w1 ⟨rfl, hb⟩
  have HB := Lib.hid hb
  clear hb
  go_wp2
  go_loopw [3] (fun x wr => ∃ l : List UInt8, x = .string ⟨l.toArray⟩ ∧ l.length ≤ 16 ∧ List.replicate (16 - l.length) 48 ++ l = q ∧ wr = w1) (fun x _ => match x with | .string s => 16 - s.size | _ => 0)
  case atStart => exact ⟨p, rfl, HLN.out, HP.out, rfl⟩
  case round =>
    obtain ⟨l, rfl, hl, hx, rfl⟩ := hrel
    have HX := Lib.hid hx
    have hcs := cons_str 48 l
    have hln : 1 + l.length ≤ 9223372036854775807 := by omega
    clear hx
    by_cases h16 : l.length = 16
    · have HE : Hid (l = q) := Lib.hid (by rw [← HX.out, h16]; rfl)
      go_wp2
      go_ret
      rw [← HE.out]
      exact ⟨rfl, HB.out⟩
    · have hlt : l.length < 16 := by omega
      go_wp2
      refine ⟨⟨48 :: l, rfl, by simp only [List.length_cons]; omega, ?_, trivial⟩, ?_⟩
      · rw [← HX.out, List.length_cons, show 16 - l.length = (16 - (l.length + 1)) + 1 by omega, List.replicate_succ', List.append_assoc]
        rfl
      · show 16 - (48 :: l).toArray.size < 16 - l.toArray.size
        simp only [List.size_toArray, List.length_cons]
        omega
theorem rtext_any (p q : Nat) (hp : p < 18446744073709551616) (hq : q < 18446744073709551616) (w : World) (h : Tz w) : Calls Tryd.prog 50 #[.complex .f64 p q] w fun e w' => e = .returned (.string ⟨(textB p q).toArray⟩) ∧ Below w.heap.size w w' := by
  have H1 := Lib.hid (fun (W : World) (h : Tz W) => hex_any p hp W h)
  have H2 := Lib.hid (fun (W : World) (h : Tz W) => hex_any q hq W h)
  have HT := Lib.hid h
  have e1 : (⟨(hexB p).toArray⟩ : ByteArray) ++ (⟨#[44]⟩ : ByteArray) = ⟨(hexB p ++ [44]).toArray⟩ := app_str (hexB p) [44]
  have e2 : (⟨(hexB p ++ [44]).toArray⟩ : ByteArray) ++ (⟨(hexB q).toArray⟩ : ByteArray) = ⟨(textB p q).toArray⟩ := by
    rw [app_str, List.append_assoc]; rfl
  have z1 : (⟨(hexB p).toArray⟩ : ByteArray).size = 16 := by show (hexB p).toArray.size = 16; simp [hexB_length]
  have z2 : (⟨(hexB p ++ [44]).toArray⟩ : ByteArray).size = 17 := by show (hexB p ++ [44]).toArray.size = 17; simp [hexB_length]
  have z3 : (⟨(hexB q).toArray⟩ : ByteArray).size = 16 := by show (hexB q).toArray.size = 16; simp [hexB_length]
  obtain ⟨A, hA⟩ : ∃ A : ByteArray, (⟨(hexB p).toArray⟩ : ByteArray) = A := ⟨_, rfl⟩
  obtain ⟨B, hB⟩ : ∃ B : ByteArray, (⟨(hexB p ++ [44]).toArray⟩ : ByteArray) = B := ⟨_, rfl⟩
  obtain ⟨C, hC⟩ : ∃ C : ByteArray, (⟨(hexB q).toArray⟩ : ByteArray) = C := ⟨_, rfl⟩
  obtain ⟨D, hD⟩ : ∃ D : ByteArray, (⟨(textB p q).toArray⟩ : ByteArray) = D := ⟨_, rfl⟩
  rw [hA] at H1 e1 z1
  rw [hB] at e1 e2 z2
  rw [hC] at H2 e2 z3
  rw [hD] at e2 ⊢
  clear h hA hB hC hD
  go_enter Tryd.func50, Tryd.ntmps50
  go_wp2_with (go_at_call 54; refine (words35 _ _ _).mono ?_; rintro e wx ⟨rfl, rfl⟩)
  refine (H1.out _ HT.out).mono ?_
  rintro e w1 ⟨rfl, hb1⟩
  have HB1 := Lib.hid hb1
  have HT1 := Lib.hid (HT.out.below hb1)
  clear hb1
  go_wp2_with fail
  refine (H2.out _ HT1.out).mono ?_
  rintro e w2 ⟨rfl, hb2⟩
  have HB2 := Lib.hid (HB1.out.trans (hb2.mono HB1.out.size))
  clear hb2
  go_wp2
  go_ret
  exact ⟨rfl, HB2.out⟩
theorem vtext_any' (kd n re im ref : Int) (w : World) (hk : kd = 0 ∨ kd = 1 ∨ kd = 2 ∨ kd = 3) (hw : ok5 ⟨kd, n, re, im, ref⟩) (ht : Tab w) (hz : Tz w) : Calls Tryd.prog 39 #[.agg #[.int .i64 kd, .int .i64 n, .int .u64 re, .int .u64 im, .int .i64 ref]] w fun e w' =>
    e = .returned (.string ⟨(textV ⟨kd, n, re, im, ref⟩).toArray⟩) ∧ Below w.heap.size w w' := by
  have HB0 := Lib.hid (bel_one w (.cells #[.int .i64 kd, .int .i64 n, .int .u64 re, .int .u64 im, .int .i64 ref] 36))
  have HT0 := Lib.hid (ht.below HB0.out)
  have HZ0 := Lib.hid (hz.below HB0.out)
  clear ht hz
  obtain ⟨⟨n0, n1⟩, ⟨a0, a1⟩, ⟨b0, b1⟩, r0, r1⟩ := ok5_nums hw
  dsimp only at n0 n1 a0 a1 b0 b1 r0 r1
  clear hw
  rcases hk with rfl | rfl | rfl | rfl
  · show Calls Tryd.prog 39 _ w fun e w' => e = .returned (.string ⟨#[110, 105, 108]⟩) ∧ Below w.heap.size w w'
    clear n0 n1 a0 a1 b0 b1 r0 r1
    go_enter Tryd.func39, Tryd.ntmps39
    go_wp2
    go_ret
    exact ⟨rfl, HB0.out⟩
  · show Calls Tryd.prog 39 _ w fun e w' => e = .returned (.string ⟨(Lib.itoa n).toArray⟩) ∧ Below w.heap.size w w'
    have HF := Lib.hid (fun (W : World) (h : Tab W) => formatInt n n0 n1 W h)
    clear n0 n1 a0 a1 b0 b1 r0 r1
    go_enter Tryd.func39, Tryd.ntmps39
    go_wp2_with fail
    refine (HF.out _ HT0.out).mono ?_
    rintro e w1 ⟨rfl, hb1⟩
    have HB1 := Lib.hid (HB0.out.trans (hb1.mono HB0.out.size))
    clear hb1
    go_wp2
    go_ret
    exact ⟨rfl, HB1.out⟩
  · show Calls Tryd.prog 39 _ w fun e w' => e = .returned (.string ⟨(99 :: textB re.toNat im.toNat).toArray⟩) ∧ Below w.heap.size w w'
    obtain ⟨p, rfl⟩ := Int.eq_ofNat_of_zero_le a0
    obtain ⟨q, rfl⟩ := Int.eq_ofNat_of_zero_le b0
    have HX := Lib.hid (fun (W : World) (h : Tz W) => rtext_any p q (by omega) (by omega) W h)
    clear n0 n1 a0 a1 b0 b1 r0 r1
    go_enter Tryd.func39, Tryd.ntmps39
    go_wp2_with (go_at_call 51; refine (of32 _ _ _).mono ?_; rintro e wx ⟨rfl, rfl⟩)
    refine (HX.out _ HZ0.out).mono ?_
    rintro e w1 ⟨rfl, hb1⟩
    have HB1 := Lib.hid (HB0.out.trans (hb1.mono HB0.out.size))
    have hcs := cons_str 99 (textB p q)
    have hln : 1 + (textB p q).length ≤ 9223372036854775807 := by rw [textB_length]; omega
    clear hb1
    go_wp2
    go_ret
    exact ⟨rfl, HB1.out⟩
  · show Calls Tryd.prog 39 _ w fun e w' => e = .returned (.string ⟨(35 :: Lib.itoa ref).toArray⟩) ∧ Below w.heap.size w w'
    have HLN : Hid (1 + (Lib.itoa ref).length ≤ 9223372036854775807) := Lib.hid (by have := Lib.itoa_length_le ref r0 r1; omega)
    have HF := Lib.hid (fun (W : World) (h : Tab W) => Ld.itoa ref r0 r1 W h)
    clear n0 n1 a0 a1 b0 b1 r0 r1
    go_enter Tryd.func39, Tryd.ntmps39
    go_wp2_with fail
    refine (HF.out _ HT0.out).mono ?_
    rintro e w1 ⟨rfl, hb1⟩
    have HB1 := Lib.hid (HB0.out.trans (hb1.mono HB0.out.size))
    have hcs := cons_str 35 (Lib.itoa ref)
    have hln : 1 + (Lib.itoa ref).length ≤ 9223372036854775807 := HLN.out
    clear hb1
    go_wp2
    go_ret
    exact ⟨rfl, HB1.out⟩
theorem vtext_any (v : V5) (w : World) (hk : v.kd = 0 ∨ v.kd = 1 ∨ v.kd = 2 ∨ v.kd = 3) (hw : ok5 v) (ht : Tab w) (hz : Tz w) : Calls Tryd.prog 39 #[agg5 v] w fun e w' => e = .returned (.string ⟨(textV v).toArray⟩) ∧ Below w.heap.size w w' := vtext_any' v.kd v.n v.re v.im v.ref w hk hw ht hz
theorem gName3 : Tryd.prog.globalNamed "math/bits.deBruijn64tab" = some 3 := by kernel_rfl
theorem gType3 : (Tryd.prog.globals[3]?).map (·.type) = some 96 := by kernel_rfl
theorem cells96 : Tryd.prog.cellsOf 96 = 64 := by kernel_rfl
theorem cells5 : Tryd.prog.cellsOf 5 = 1 := by kernel_rfl
theorem data3 : (Rows.laid_math_bits_deBruijn64tab : DataW Unit) = Lib.tabData .u8 (Lib.deBruijn64tab.map Int.ofNat) := by rfl
theorem tz {W : World} (h : laidMetH Tryd.prog Vt.laid W) : Tz W := by
  rw [MakeChecks.laidMetH_plain _ _ _ (by kernel_rfl)] at h
  have h2 : laidMet Tryd.prog [("math/bits.deBruijn64tab", Lib.tabData .u8 (Lib.deBruijn64tab.map Int.ofNat)), ("internal/strconv.uint64pow10", Rows.laid_internal_strconv_uint64pow10)] W := by
    rw [← data3]
    exact laidMet.tail h
  have hT := Lib.tabIs_of_head gName3 gType3 Tryd.underlying96 Tryd.underlying5 cells5 cells96 h2
  have := hT.cell gName3 15 (by decide)
  exact this
end Go.Proofs.YtdgclpgjoanimaaDoor.Fb
