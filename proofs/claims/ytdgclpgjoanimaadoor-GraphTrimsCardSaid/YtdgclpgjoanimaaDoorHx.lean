/-
  A word's sixteen digits (hex), a value's text (text).
-/
import Derived.Test.YtdgclpgjoanimaaDoorLd
import Derived.Test.YtdgclpgjoanimaaDoorAw
import Derived.Laws.Bits64
import Derived.Laws.Strings
import Derived.Lib.AtoiErrMem
import Derived.Lib.ItoaLen
import Derived.WalkSmall
import Derived.Deep.RegionHeld3
import Derived.Deep.DeepMust
namespace Go.Proofs.YtdgclpgjoanimaaDoor.Hx
open Go.RowKit Go.ChangeShapes Go.WideShapes Go.Proofs.YtdgclpgjoanimaaDoorW.PrintWords Go.Proofs.YtdgclpgjoanimaaDoor.Ba Go.Proofs.YtdgclpgjoanimaaDoor.Ld
set_option linter.unusedVariables false
set_option linter.unusedSimpArgs false
set_option maxRecDepth 100000
set_option maxHeartbeats 8000000
theorem info5 : (Tryd.prog.info? 5).map (fun i => (i.zero, i.size, i.bytes)) = some (some (.int .u8 0), 1, 1) := by kernel_rfl

def RI (i : Value) (k : Nat) : Prop := (i = .int .i64 (-1) ∧ k = 16) ∨ (∃ m : Nat, i = .int .i64 (m : Int) ∧ m ≤ 15 ∧ k = 15 - m)
def dig (d : Nat) : Value := .int .u8 (if d < 10 then 48 + d else 87 + d : Nat)
def hexs (x k : Nat) : List Value := (List.range k).map fun j => dig (x / 16 ^ (15 - j) % 16)
theorem and15 (x m : Nat) (hx : x < 18446744073709551616) : Go.bits .and .u64 ((x : Int) / 2 ^ (4 * m)) 15 = ((x / 16 ^ m % 16 : Nat) : Int) := by
  have e : (x : Int) / 2 ^ (4 * m) = ((x / 16 ^ m : Nat) : Int) := by
    rw [show (16 : Nat) = 2 ^ 4 from rfl, ← Nat.pow_mul, Int.natCast_ediv, Int.natCast_pow]; rfl
  have hle : x / 16 ^ m ≤ x := Nat.div_le_self _ _
  have h := u64_and_nat (x / 16 ^ m) 15 (by omega) (by omega)
  rw [show ((15 : Nat) : Int) = 15 from rfl] at h
  rw [e, h, show (15 : Nat) = 2 ^ 4 - 1 from rfl, Nat.and_two_pow_sub_one_eq_mod]
theorem tbl_dig : ∀ d : Fin 16, ((ByteArray.mk #[48, 49, 50, 51, 52, 53, 54, 55, 56, 57, 97, 98, 99, 100, 101, 102])[d.val]'(d.isLt)).toNat = if d.val < 10 then 48 + d.val else 87 + d.val := by decide
theorem dig_eq (d : Nat) (h : d < 16) : Value.int .u8 ((((ByteArray.mk #[48, 49, 50, 51, 52, 53, 54, 55, 56, 57, 97, 98, 99, 100, 101, 102])[d]'h).toNat : Nat) : Int) = dig d := by
  rw [tbl_dig ⟨d, h⟩]; rfl
theorem cell_dig (w : World) (d : Nat) (h : d < 16) : ∀ (j : Nat) (u : Value), [dig d][j]? = some u →
    (w.alloc (.cells #[Value.int .u8 ((((ByteArray.mk #[48, 49, 50, 51, 52, 53, 54, 55, 56, 57, 97, 98, 99, 100, 101, 102])[d]'h).toNat : Nat) : Int)] 5)).cell? ((⟨w.heap.size, 0, none⟩ : Addr).add j) = some u := by
  rw [dig_eq d h]
  exact cell_one_new _ _ _
theorem hexs_succ (x m d : Nat) (hm : m ≤ 15) (hd : x / 16 ^ m % 16 = d) : hexs x (15 - m) ++ [dig d] = hexs x (15 - m + 1) := by
  unfold hexs
  rw [List.range_succ, List.map_append]
  have e : 15 - (15 - m) = m := by omega
  simp [e, hd]
theorem one_dig (d : Nat) : ∀ u ∈ [dig d], u.oneCell' = true := by
  intro u hu
  simp only [List.mem_singleton] at hu
  subst hu; rfl
theorem RI.next {m : Nat} (hm : m ≤ 15) : RI (.int .i64 ((m : Int) - 1)) (15 - m + 1) := by
  cases m with
  | zero => exact .inl ⟨rfl, rfl⟩
  | succ m => exact .inr ⟨m, by congr 1; omega, by omega, by omega⟩
def digB (d : Nat) : UInt8 := UInt8.ofNat (if d < 10 then 48 + d else 87 + d)
def hexB (x : Nat) : List UInt8 := (List.range 16).map fun j => digB (x / 16 ^ (15 - j) % 16)
def textB (p q : Nat) : List UInt8 := hexB p ++ 44 :: hexB q
def byteV (b : UInt8) : Value := .int .u8 (b.toNat : Int)
theorem dig_byte (d : Nat) (h : d < 16) : dig d = byteV (digB d) := by
  unfold dig byteV digB
  rw [UInt8.toNat_ofNat_of_lt' (by split <;> simp [UInt8.size] <;> omega)]
theorem hexs_bytes (x : Nat) : hexs x 16 = (hexB x).map byteV := by
  unfold hexs hexB
  rw [List.map_map]
  refine List.map_congr_left fun j _ => ?_
  exact dig_byte _ (Nat.mod_lt _ (by omega))
theorem hexB_length (x : Nat) : (hexB x).length = 16 := by simp [hexB]
theorem textB_length (p q : Nat) : (textB p q).length = 33 := by simp [textB, hexB_length]
theorem row_string (w : World) (B : Nat) (v : Value) (l : List UInt8) (hl : 0 < l.length) (h : w.ownsRow B 5 1 v l.length (l.map byteV)) :
    ∃ g cap, v = .slice (some ⟨g, 0, none⟩) l.length cap ∧ (Go.convert 47 9 (.slice (some ⟨g, 0, none⟩) l.length cap)).run Tryd.prog w = .ok (.string ⟨l.toArray⟩) w := by
  rcases h.2 with ⟨_, h0⟩ | ⟨g, cap, cur, rfl, hrest⟩
  · omega
  · refine ⟨g, cap, rfl, run_convert_bytes_back w 47 9 5 _ cap l Tryd.underlying47 Tryd.underlying5 Tryd.underlying9 ?_⟩
    intro j hj
    refine h.cells rfl j _ ?_
    simp [hj, byteV]


theorem hexs_row (x : Nat) (w : World) (B : Nat) (v : Value) (h : w.ownsRow B 5 1 v 16 (hexs x 16)) : ∃ g cap, v = .slice (some ⟨g, 0, none⟩) 16 cap ∧ (Go.convert 47 9 (.slice (some ⟨g, 0, none⟩) 16 cap)).run Tryd.prog w = .ok (.string ⟨(hexB x).toArray⟩) w := by
  rw [hexs_bytes] at h
  have h' : w.ownsRow B 5 1 v (hexB x).length ((hexB x).map byteV) := by rw [hexB_length]; exact h
  obtain ⟨g, cap, e, hr⟩ := row_string w B v (hexB x) (by rw [hexB_length]; omega) h'
  rw [hexB_length] at e hr
  exact ⟨g, cap, e, hr⟩
theorem hex_any (x : Nat) (w : World) (hx : x < 18446744073709551616) :
    Calls Tryd.prog 46 #[.int .u64 (x : Int)] w fun e w' => e = .returned (.string ⟨(hexB x).toArray⟩) ∧ Below w.heap.size w w' := by
  obtain ⟨i0, hi0, hz0, hz1, hz2⟩ := info_parts info5
  go_enter Tryd.func46, Tryd.ntmps46
  go_wp2
  go_loopw [3, 4] (fun s i wr => ∃ k, RI i k ∧ wr.ownsRow w.heap.size 5 1 s k (hexs x k) ∧ Below w.heap.size w wr) (fun _ i _ => (intOf i + 1).toNat)
  case atStart => exact ⟨0, .inr ⟨15, rfl, by omega, rfl⟩, by simpa [hexs] using World.ownsRow_nil _ _ _ _, Below.refl _ _⟩
  case round =>
    obtain ⟨k, hR, ho, hb⟩ := hrel
    rcases hR with ⟨rfl, hk⟩ | ⟨m, rfl, hm, hk⟩
    · subst hk
      obtain ⟨g, cap, rfl, hcv⟩ := hexs_row x _ _ _ ho
      clear ho
      go_wp2
      go_ret
      exact ⟨rfl, hb⟩
    · have hd := and15 x m hx
      have hdl : x / 16 ^ m % 16 < 16 := Nat.mod_lt _ (by omega)
      have hd2 : ((x / 16 ^ m % 16 : Nat) : Int) < 16 := by omega
      have hd3 : (0 : Int) ≤ ((x / 16 ^ m % 16 : Nat) : Int) := by omega
      generalize hdd : x / 16 ^ m % 16 = d at *
      have HDD := Lib.hid hdd
      clear hdd
      subst hk
      go_wp2_with (at_builtin; refine wpList_append_own _ rfl (.tmp 9) (.tmp 16) _ rfl w.heap.size 5 i0 (.int .u8 0) 1 1 Tryd.underlying47 hi0 hz0 hz1 hz2 rfl (by decide) _ _ _ rfl (ho.alloc _) ⟨wr.heap.size, 0, none⟩ 1 1 [dig d] rfl rfl ?c1 ?c2 ?c3 ?c4 ?c5 ?_)
      case c1 => exact cell_dig wr d hdl
      case c2 => exact one_dig d
      case c3 => simp only [maxLen]; omega
      case c4 => omega
      case c5 => simp; exact Nat.le_succ_of_le hb.size
      intro v' w1 ho1 hg1 _
      have hb1 : Below w.heap.size w w1 := (hb.alloc hb.size _).grown hg1 (by simp; exact Nat.le_succ_of_le hb.size) (fun k hk => (ho.lt k hk).1)
      rw [hexs_succ x m d hm HDD.out] at ho1
      clear hg1 hd
      go_wp2
      go_roundw
      case rel => exact ⟨15 - m + 1, RI.next hm, ho1, hb1⟩
      case measure => simp [intOf]
/-- A value's text. -/
def textV (v : V5) : List UInt8 :=
  if v.kd = 1 then Lib.itoa v.n else if v.kd = 2 then 99 :: textB v.re.toNat v.im.toNat else if v.kd = 3 then 35 :: Lib.itoa v.ref else [110, 105, 108]
theorem cons_str (c : UInt8) (l : List UInt8) : (⟨#[c]⟩ : ByteArray) ++ (⟨l.toArray⟩ : ByteArray) = ⟨(c :: l).toArray⟩ := by
  apply ByteArray.ext
  rw [ByteArray.data_append]
  simp
theorem app_str (l m : List UInt8) : (⟨l.toArray⟩ : ByteArray) ++ (⟨m.toArray⟩ : ByteArray) = ⟨(l ++ m).toArray⟩ := by
  apply ByteArray.ext
  rw [ByteArray.data_append]
  simp
theorem u64_bd {n : Int} (h : (Lit.int .u64 n).wf = true) : 0 ≤ n ∧ n < 18446744073709551616 := by
  simp [Lit.wf, IntKind.min, IntKind.max, IntKind.signed, IntKind.bits] at h
  omega
theorem i64_bd {n : Int} (h : (Lit.int .i64 n).wf = true) : -9223372036854775808 ≤ n ∧ n ≤ 9223372036854775807 := by
  simp [Lit.wf, IntKind.min, IntKind.max, IntKind.signed, IntKind.bits] at h
  omega
theorem u64_nat {a : Int} (h : (Lit.int .u64 a).wf = true) : ∃ n : Nat, a = (n : Int) ∧ n < 18446744073709551616 := by
  obtain ⟨h0, h1⟩ := u64_bd h
  exact ⟨a.toNat, by omega, by omega⟩
theorem ok5_nums {v : V5} (h : ok5 v) : (-9223372036854775808 ≤ v.n ∧ v.n ≤ 9223372036854775807) ∧ (0 ≤ v.re ∧ v.re < 18446744073709551616) ∧ (0 ≤ v.im ∧ v.im < 18446744073709551616) ∧ -9223372036854775808 ≤ v.ref ∧ v.ref ≤ 9223372036854775807 := by
  obtain ⟨_, h1, h2, h3, h4⟩ := h
  have a := i64_bd h1
  have b := u64_bd h2
  have c := u64_bd h3
  have d := i64_bd h4
  omega
theorem bel_one (w : World) (o : Obj) : Below w.heap.size w (w.alloc o) := (Below.refl w.heap.size w).alloc (Nat.le_refl _) o
theorem cell_drew {w : World} {a : Addr} {v : Value} (h : w.cell? a = some v) : w.drew.cell? a = some v := h
theorem text_any' (kd n re im ref : Int) (w : World) (hw : ok5 ⟨kd, n, re, im, ref⟩) (ht : Tab w) : Calls Tryd.prog 27 #[.agg #[.int .i64 kd, .int .i64 n, .int .u64 re, .int .u64 im, .int .i64 ref]] w fun e w' =>
    e = .returned (.string ⟨(textV ⟨kd, n, re, im, ref⟩).toArray⟩) ∧ Below w.heap.size w w' := by
  obtain ⟨l, hl⟩ : ∃ l, textV ⟨kd, n, re, im, ref⟩ = l := ⟨_, rfl⟩
  rw [hl]
  unfold textV at hl
  dsimp only at hl
  have HB0 := Lib.hid (bel_one w (.cells #[.int .i64 kd, .int .i64 n, .int .u64 re, .int .u64 im, .int .i64 ref] 36))
  have HT0 := Lib.hid (ht.below HB0.out)
  clear ht
  obtain ⟨⟨n0, n1⟩, ⟨a0, a1⟩, ⟨b0, b1⟩, r0, r1⟩ := ok5_nums hw
  dsimp only at n0 n1 a0 a1 b0 b1 r0 r1
  clear hw
  by_cases h1 : kd = 1
  · subst h1
    obtain rfl : Lib.itoa n = l := by rw [← hl]; rfl
    have HF := Lib.hid (fun (W : World) (h : Tab W) => formatInt n n0 n1 W h)
    clear hl n0 n1 a0 a1 b0 b1 r0 r1
    go_enter Tryd.func27, Tryd.ntmps27
    go_wp2_with fail
    refine (HF.out _ HT0.out).mono ?_
    rintro e w1 ⟨rfl, hb1⟩
    have HB1 := Lib.hid (HB0.out.trans (hb1.mono HB0.out.size))
    clear hb1
    go_wp2
    go_ret
    exact ⟨rfl, HB1.out⟩
  · by_cases h2 : kd = 2
    · subst h2
      obtain rfl : 99 :: textB re.toNat im.toNat = l := by rw [← hl]; rfl
      obtain ⟨p, rfl⟩ := Int.eq_ofNat_of_zero_le a0
      obtain ⟨q, rfl⟩ := Int.eq_ofNat_of_zero_le b0
      have HX := Lib.hid (fun (W : World) => hex_any p W (by omega))
      have HY := Lib.hid (fun (W : World) => hex_any q W (by omega))
      have HE : Hid (99 :: textB (p : Int).toNat (q : Int).toNat = 99 :: (hexB p ++ 44 :: hexB q)) := Lib.hid rfl
      have lp := hexB_length p
      have lq := hexB_length q
      generalize hexB p = X at *
      generalize hexB q = Y at *
      obtain ⟨w0, hw0⟩ : ∃ w0, w.alloc (.cells #[.int .i64 2, .int .i64 n, .int .u64 (p : Int), .int .u64 (q : Int), .int .i64 ref] 36) = w0 := ⟨_, rfl⟩
      have hbx : Bx5 w0 w.heap.size ⟨2, n, p, q, ref⟩ := by rw [← hw0]; exact heap_alloc_new w _
      rw [hw0] at HB0
      obtain ⟨c0, c1, c2, c3, c4⟩ := hbx.cells
      have h1 := cons_str 99 X
      have h2 := app_str (99 :: X) [44]
      have h3 : (⟨(99 :: (X ++ [44])).toArray⟩ : ByteArray) ++ (⟨Y.toArray⟩ : ByteArray) = ⟨(99 :: (X ++ 44 :: Y)).toArray⟩ := by rw [app_str]; simp
      clear hl n0 n1 a0 a1 b0 b1 r0 r1 hbx HT0
      rw [HE.out]
      clear HE
      go_enter Tryd.func27, Tryd.ntmps27
      go_wp2
      go_region_held3 (fun w' => w'.cell? ⟨w.heap.size, 2, none⟩ = some (.int .u64 (p : Int)) ∧ w'.cell? ⟨w.heap.size, 3, none⟩ = some (.int .u64 (q : Int)))
        (first | ((try dsimp only); refine ⟨?_, ?_⟩ <;> (repeat (first | (with_reducible assumption) | (with_reducible apply cell_drew)))) | fail)
        (first
          | (go_at_call 46; (with_reducible show Calls _ _ #[.int .u64 (p : Int)] _ _); go_must (refine (HX.out _).mono ?_; rintro e w1 ⟨rfl, hb1⟩; have HB1 := Lib.hid (HB0.out.drew.trans (hb1.mono HB0.out.drew.size)); have c2 := cell_old (cell_drew c2) hb1.block; have c3 := cell_old (cell_drew c3) hb1.block))
          | (go_at_call 46; (with_reducible show Calls _ _ #[.int .u64 (q : Int)] _ _); go_must (refine (HY.out _).mono ?_; rintro e w2 ⟨rfl, hb2⟩; have HB2 := Lib.hid (HB1.out.trans (hb2.mono HB1.out.size)); have c2 := cell_old c2 hb2.block; have c3 := cell_old c3 hb2.block))
          | fail)
      all_goals
        go_wp2
        go_ret
        exact ⟨rfl, HB2.out⟩
    · by_cases h3 : kd = 3
      · subst h3
        obtain rfl : 35 :: Lib.itoa ref = l := by rw [← hl]; rfl
        have HLN : Hid (1 + (Lib.itoa ref).length ≤ 9223372036854775807) := Lib.hid (by have := Lib.itoa_length_le ref r0 r1; omega)
        have HF := Lib.hid (fun (W : World) (h : Tab W) => Ld.itoa ref r0 r1 W h)
        clear hl n0 n1 a0 a1 b0 b1 r0 r1
        go_enter Tryd.func27, Tryd.ntmps27
        go_wp2_with fail
        refine (HF.out _ HT0.out).mono ?_
        rintro e w1 ⟨rfl, hb1⟩
        have HB1 := Lib.hid (HB0.out.trans (hb1.mono HB0.out.size))
        have hcs := cons_str 35 (Lib.itoa ref)
        have hln : 1 + (Lib.itoa ref).length ≤ 9223372036854775807 := HLN.out
        clear hb1
        go_wp2
        go_ret
        exact ⟨rfl, HB1.out⟩
      · rw [if_neg h1, if_neg h2, if_neg h3] at hl
        subst hl
        have k1 : (kd == 1) = false := by rw [beq_eq_false_iff_ne]; exact h1
        have k2 : (kd == 2) = false := by rw [beq_eq_false_iff_ne]; exact h2
        have k3 : (kd == 3) = false := by rw [beq_eq_false_iff_ne]; exact h3
        clear n0 n1 a0 a1 b0 b1 r0 r1
        go_enter Tryd.func27, Tryd.ntmps27
        go_wp2
        go_ret
        exact ⟨rfl, HB0.out⟩
theorem text_any (v : V5) (w : World) (hw : ok5 v) (ht : Tab w) : Calls Tryd.prog 27 #[agg5 v] w fun e w' => e = .returned (.string ⟨(textV v).toArray⟩) ∧ Below w.heap.size w w' := text_any' v.kd v.n v.re v.im v.ref w hw ht
theorem textV_length (v : V5) (hw : ok5 v) : (textV v).length ≤ 34 := by
  obtain ⟨⟨n0, n1⟩, ⟨a0, a1⟩, ⟨b0, b1⟩, r0, r1⟩ := ok5_nums hw
  have h1 := Lib.itoa_length_le v.n n0 n1
  have h2 := Lib.itoa_length_le v.ref r0 r1
  unfold textV
  split
  · omega
  · split
    · simp [textB_length]
    · split
      · simp; omega
      · simp
end Go.Proofs.YtdgclpgjoanimaaDoor.Hx
