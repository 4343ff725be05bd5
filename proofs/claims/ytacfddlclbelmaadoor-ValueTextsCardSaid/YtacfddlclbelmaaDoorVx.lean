/-
  A value as a text (value.Text), and such a text as a value (value.Parse).
-/
import Derived.Test.YtacfddlclbelmaaDoorVp
import Derived.Test.YtacfddlclbelmaaDoorPs
import Derived.Test.YtacfddlclbelmaaDoorDc
import Derived.Laws.Strings
namespace Go.Proofs.YtacfddlclbelmaaDoor.Vx
open Go.RowKit Go.ChangeShapes Go.WideShapes Go.Proofs.YtacfddlclbelmaaDoorW.PrintWords Go.Proofs.YtacfddlclbelmaaDoor.Ba Go.Proofs.YtacfddlclbelmaaDoor.Va Go.Proofs.YtacfddlclbelmaaDoor.Vb Go.Proofs.YtacfddlclbelmaaDoor.Vp Go.Proofs.YtacfddlclbelmaaDoor.Tx Go.Proofs.YtacfddlclbelmaaDoor.Ps
set_option linter.unusedVariables false
set_option linter.unusedSimpArgs false
set_option maxRecDepth 100000
set_option maxHeartbeats 8000000
def textV (v : V5) : List UInt8 :=
  if v.kd = 0 then [110, 105, 108] else if v.kd = 1 then Lib.itoa v.n else if v.kd = 2 then 99 :: textB v.re.toNat v.im.toNat else if v.kd = 3 then 35 :: Lib.itoa v.ref else []
/-- The numbers of a value are what their types can hold. -/
structure Wf (v : V5) : Prop where
  n0 : -9223372036854775808 ≤ v.n
  n1 : v.n ≤ 9223372036854775807
  a0 : 0 ≤ v.re
  a1 : v.re < 18446744073709551616
  b0 : 0 ≤ v.im
  b1 : v.im < 18446744073709551616
  r0 : -9223372036854775808 ≤ v.ref
  r1 : v.ref ≤ 9223372036854775807
theorem cons_str (c : UInt8) (l : List UInt8) : (⟨#[c]⟩ : ByteArray) ++ (⟨l.toArray⟩ : ByteArray) = ⟨(c :: l).toArray⟩ := by
  apply ByteArray.ext
  rw [ByteArray.data_append]
  simp
theorem text_any' (kd n re im ref : Int) (w : World) (hw : Wf ⟨kd, n, re, im, ref⟩) (ht : Tab w) : Calls Tryd.prog 27 #[.agg #[.int .i64 kd, .int .i64 n, .int .u64 re, .int .u64 im, .int .i64 ref]] w fun e w' =>
    e = .returned (.string ⟨(textV ⟨kd, n, re, im, ref⟩).toArray⟩) ∧ Below w.heap.size w w' := by
  obtain ⟨l, hl⟩ : ∃ l, textV ⟨kd, n, re, im, ref⟩ = l := ⟨_, rfl⟩
  rw [hl]
  unfold textV at hl
  dsimp only at hl
  have HB0 := Lib.hid (bel_one w (.cells #[.int .i64 kd, .int .i64 n, .int .u64 re, .int .u64 im, .int .i64 ref] 24))
  have HT0 := Lib.hid (ht.below HB0.out)
  clear ht
  obtain ⟨n0, n1, a0, a1, b0, b1, r0, r1⟩ := hw
  dsimp only at n0 n1 a0 a1 b0 b1 r0 r1
  by_cases h0 : kd = 0
  · subst h0
    obtain rfl : [110, 105, 108] = l := by rw [← hl]; rfl
    clear hl n0 n1 a0 a1 b0 b1 r0 r1
    go_enter Tryd.func27, Tryd.ntmps27
    go_wp2
    go_ret
    exact ⟨rfl, HB0.out⟩
  · by_cases h1 : kd = 1
    · subst h1
      obtain rfl : Lib.itoa n = l := by rw [← hl]; rfl
      have HF := Lib.hid (fun (W : World) (h : Tab W) => formatInt n n0 n1 W h)
      clear hl n0 n1 a0 a1 b0 b1 r0 r1
      go_enter Tryd.func27, Tryd.ntmps27
      go_wp2_with fail
      refine (HF.out _ HT0.out).mono ?_
      rintro e w1 ⟨rfl, hb1⟩
      have HB1 := Lib.hid (HB0.out.trans (hb1.mono HB0.out.size))
      clear hb1
      go_wp2
      go_ret
      exact ⟨rfl, HB1.out⟩
    · by_cases h2 : kd = 2
      · subst h2
        obtain rfl : 99 :: textB re.toNat im.toNat = l := by rw [← hl]; rfl
        obtain ⟨p, rfl⟩ := Int.eq_ofNat_of_zero_le a0
        obtain ⟨q, rfl⟩ := Int.eq_ofNat_of_zero_le b0
        have HX := Lib.hid (fun (W : World) => text_any p q W (by omega) (by omega))
        clear hl n0 n1 a0 a1 b0 b1 r0 r1
        go_enter Tryd.func27, Tryd.ntmps27
        go_wp2_with (go_at_call 32; refine (of32 _ _ _).mono ?_; rintro e wx ⟨rfl, rfl⟩)
        refine (HX.out _).mono ?_
        rintro e w1 ⟨rfl, hb1⟩
        have HB1 := Lib.hid (HB0.out.trans (hb1.mono HB0.out.size))
        have hcs := cons_str 99 (textB p q)
        have hln : 1 + (textB p q).length ≤ 9223372036854775807 := by rw [textB_length]; omega
        clear hb1
        go_wp2
        go_ret
        exact ⟨rfl, HB1.out⟩
      · by_cases h3 : kd = 3
        · subst h3
          obtain rfl : 35 :: Lib.itoa ref = l := by rw [← hl]; rfl
          have HLN : Hid (1 + (Lib.itoa ref).length ≤ 9223372036854775807) := Lib.hid (by have := Lib.itoa_length_le ref r0 r1; omega)
          have HF := Lib.hid (fun (W : World) (h : Tab W) => Vp.itoa ref r0 r1 W h)
          clear hl n0 n1 a0 a1 b0 b1 r0 r1
          go_enter Tryd.func27, Tryd.ntmps27
          go_wp2_with fail
          refine (HF.out _ HT0.out).mono ?_
          rintro e w1 ⟨rfl, hb1⟩
          have HB1 := Lib.hid (HB0.out.trans (hb1.mono HB0.out.size))
          have hcs := cons_str 35 (Lib.itoa ref)
          have hln : 1 + (Lib.itoa ref).length ≤ 9223372036854775807 := HLN.out
          clear hb1
          go_wp2
          go_ret
          exact ⟨rfl, HB1.out⟩
        · rw [if_neg h0, if_neg h1, if_neg h2, if_neg h3] at hl
          subst hl
          have k0 : (kd == 0) = false := by rw [beq_eq_false_iff_ne]; exact h0
          have k1 : (kd == 1) = false := by rw [beq_eq_false_iff_ne]; exact h1
          have k2 : (kd == 2) = false := by rw [beq_eq_false_iff_ne]; exact h2
          have k3 : (kd == 3) = false := by rw [beq_eq_false_iff_ne]; exact h3
          clear n0 n1 a0 a1 b0 b1 r0 r1
          go_enter Tryd.func27, Tryd.ntmps27
          go_wp2
          go_ret
          exact ⟨rfl, HB0.out⟩
theorem cut_not (s p : ByteArray) (h : Lib.hasPrefix s.data.toList p.data.toList = false) (w : World) : Calls Tryd.prog 36 #[.string s, .string p] w fun e w' => e = .returned (.tuple #[.string s, .bool false]) ∧ w = w' := by
  refine (Ls.cutPrefix s p w).mono fun e w' ⟨he, hw⟩ => ⟨?_, hw.symm⟩
  rw [he, h]
  unfold Lib.trimPrefix
  rw [h]
  rfl
theorem cut_one (c : UInt8) (l : List UInt8) (w : World) : Calls Tryd.prog 36 #[.string ⟨(c :: l).toArray⟩, .string ⟨#[c]⟩] w fun e w' => e = .returned (.tuple #[.string ⟨l.toArray⟩, .bool true]) ∧ w = w' := by
  refine (Ls.cutPrefix _ _ w).mono fun e w' ⟨he, hw⟩ => ⟨?_, hw.symm⟩
  rw [he]
  have h : Lib.hasPrefix (⟨(c :: l).toArray⟩ : ByteArray).data.toList (⟨#[c]⟩ : ByteArray).data.toList = true := by simp [Lib.hasPrefix]
  unfold Lib.trimPrefix
  rw [h]
  simp
theorem not_prefix {c : UInt8} {l : List UInt8} (d : UInt8) (h : c ≠ d) : Lib.hasPrefix (⟨(c :: l).toArray⟩ : ByteArray).data.toList (⟨#[d]⟩ : ByteArray).data.toList = false := by
  show List.isPrefixOf [d] (c :: l) = false
  simp [List.isPrefixOf, Ne.symm h]
theorem ne_nil {c : UInt8} {l : List UInt8} (h : c ≠ 110) : ((⟨(c :: l).toArray⟩ : ByteArray).toList == [110, 105, 108]) = false := by
  rw [ByteArray.toList_eq, beq_eq_false_iff_ne]
  intro e
  have e' : c :: l = [110, 105, 108] := e
  injection e' with e' _
  exact h e'
theorem number_itoa (n : Int) (h0 : -9223372036854775808 ≤ n) (h1 : n ≤ 9223372036854775807) (w : World) (ht : Tab w) :
    Calls Tryd.prog 38 #[.string ⟨(Lib.itoa n).toArray⟩] w fun e w' => e = .returned (.tuple #[.int .i64 n, .bool true]) ∧ Below w.heap.size w w' := by
  have hl := Lib.itoa_length_le n h0 h1
  refine (number_ok ⟨(Lib.itoa n).toArray⟩ (by show (Lib.itoa n).toArray.size ≤ _; rw [List.size_toArray]; omega) n (Dc.parse_itoa n h0 h1) h0 h1 w ht).mono fun e w' ⟨he, hb⟩ => ⟨?_, hb⟩
  rw [he]
  simp
def plainV (v : V5) : V5 := if v.kd = 0 then ⟨0, 0, 0, 0, 0⟩ else if v.kd = 1 then ⟨1, v.n, 0, 0, 0⟩ else if v.kd = 2 then ⟨2, 0, v.re, v.im, 0⟩ else ⟨3, 0, 0, 0, v.ref⟩
theorem parse_text' (kd n re im ref : Int) (hk : kd = 0 ∨ kd = 1 ∨ kd = 2 ∨ kd = 3) (w : World) (hw : Wf ⟨kd, n, re, im, ref⟩) (ht : Tab w) : Calls Tryd.prog 25 #[.string ⟨(textV ⟨kd, n, re, im, ref⟩).toArray⟩] w fun e w' =>
    e = .returned (.tuple #[agg5 (plainV ⟨kd, n, re, im, ref⟩), .bool true]) ∧ Below w.heap.size w w' := by
  have hz := hz24'
  have HX0 := Lib.hid (show Bx5 (w.alloc (.cells #[.int .i64 0, .int .i64 0, .int .u64 0, .int .u64 0, .int .i64 0] 24)) w.heap.size z5 from heap_alloc_new w _)
  have HB0 := Lib.hid (bel_one w (.cells #[.int .i64 0, .int .i64 0, .int .u64 0, .int .u64 0, .int .i64 0] 24))
  obtain ⟨w0, hw0⟩ : ∃ w0, w.alloc (.cells #[.int .i64 0, .int .i64 0, .int .u64 0, .int .u64 0, .int .i64 0] 24) = w0 := ⟨_, rfl⟩
  rw [hw0] at HX0 HB0
  have HT0 := Lib.hid (ht.below HB0.out)
  clear ht
  obtain ⟨n0, n1, a0, a1, b0, b1, r0, r1⟩ := hw
  dsimp only at n0 n1 a0 a1 b0 b1 r0 r1
  rcases hk with rfl | rfl | rfl | rfl
  · clear n0 n1 a0 a1 b0 b1 r0 r1
    show Calls Tryd.prog 25 #[.string ⟨#[110, 105, 108]⟩] w fun e w' => e = .returned (.tuple #[.agg #[.int .i64 0, .int .i64 0, .int .u64 0, .int .u64 0, .int .i64 0], .bool true]) ∧ Below w.heap.size w w'
    go_enter Tryd.func25, Tryd.ntmps25
    go_wp2_with fail
    refine (nil_any _).mono ?_
    rintro e w1 ⟨rfl, hb1⟩
    have HX1 := Lib.hid (blk_below HX0.out hb1)
    have HB1 := Lib.hid (HB0.out.trans (hb1.mono HB0.out.size))
    clear hb1
    obtain ⟨w3, h1, h2, h3⟩ := store5 HX1.out ⟨0, 0, 0, 0, 0⟩
    have H1 := Lib.hid h1
    have H2 := Lib.hid h2
    have HB := Lib.hid (HB1.out.trans (below_of_grown h3 (Nat.le_refl _) HB1.out.size))
    clear h1 h2 h3
    go_wp2_with (refine store_named (P := Tryd.prog) rfl 24 (.tmp 2) (.tmp 14) rfl w.heap.size 0 #[.int .i64 0, .int .i64 0, .int .u64 0, .int .u64 0, .int .i64 0] rfl rfl (there5 HX1.out) infoV (one5 _ _ _ _ _) H1.out ?_)
    (try simp only [Exit.inBlock, Exit.then])
    refine bodyPost_ret (results_ct rfl _ _ w.heap.size 24 _ (0, 0) _ rfl H2.out Tryd.underlying24 rfl infoV) rfl ?_
    exact ⟨rfl, HB.out⟩
  · show Calls Tryd.prog 25 #[.string ⟨(Lib.itoa n).toArray⟩] w fun e w' => e = .returned (.tuple #[.agg #[.int .i64 1, .int .i64 n, .int .u64 0, .int .u64 0, .int .i64 0], .bool true]) ∧ Below w.heap.size w w'
    have HN := Lib.hid (fun (W : World) (h : Tab W) => number_itoa n n0 n1 W h)
    obtain ⟨c, r, e, hc⟩ := Dc.itoa_head n
    rw [e] at HN ⊢
    have C1 := Lib.hid (cut_not ⟨(c :: r).toArray⟩ ⟨#[99]⟩ (not_prefix 99 (fun h => by rw [h] at hc; revert hc; decide)))
    have C2 := Lib.hid (cut_not ⟨(c :: r).toArray⟩ ⟨#[35]⟩ (not_prefix 35 (fun h => by rw [h] at hc; revert hc; decide)))
    have hnn := ne_nil (l := r) (c := c) (fun h => by rw [h] at hc; revert hc; decide)
    obtain ⟨q, hq⟩ : ∃ q : ByteArray, (⟨(c :: r).toArray⟩ : ByteArray) = q := ⟨_, rfl⟩
    rw [hq] at HN C1 C2 hnn ⊢
    clear e hc hq n0 n1 a0 a1 b0 b1 r0 r1
    go_enter Tryd.func25, Tryd.ntmps25
    go_wp2_with fail
    refine (C1.out _).mono ?_
    rintro e wx ⟨rfl, rfl⟩
    go_wp2_with fail
    refine (C2.out _).mono ?_
    rintro e wx ⟨rfl, rfl⟩
    go_wp2_with fail
    refine (HN.out _ HT0.out).mono ?_
    rintro e w1 ⟨rfl, hb1⟩
    have HX1 := Lib.hid (blk_below HX0.out hb1)
    have HB1 := Lib.hid (HB0.out.trans (hb1.mono HB0.out.size))
    have HT1 := Lib.hid (HT0.out.below hb1)
    clear hb1
    go_wp2_with fail
    refine (int_any _ _).mono ?_
    rintro e w2 ⟨rfl, hb2⟩
    have HX2 := Lib.hid (blk_below HX1.out hb2)
    have HB2 := Lib.hid (HB1.out.trans (hb2.mono HB1.out.size))
    have HT2 := Lib.hid (HT1.out.below hb2)
    clear hb2
    obtain ⟨w3, h1, h2, h3⟩ := store5 HX2.out ⟨1, n, 0, 0, 0⟩
    have H1 := Lib.hid h1
    have H2 := Lib.hid h2
    have HB := Lib.hid (HB2.out.trans (below_of_grown h3 (Nat.le_refl _) HB2.out.size))
    clear h1 h2 h3
    go_wp2_with (refine store_named (P := Tryd.prog) rfl 24 (.tmp 2) (.tmp 50) rfl w.heap.size 0 #[.int .i64 1, .int .i64 n, .int .u64 0, .int .u64 0, .int .i64 0] rfl rfl (there5 HX2.out) infoV (one5 _ _ _ _ _) H1.out ?_)
    (try simp only [Exit.inBlock, Exit.then])
    refine bodyPost_ret (results_ct rfl _ _ w.heap.size 24 _ (0, 0) _ rfl H2.out Tryd.underlying24 rfl infoV) rfl ?_
    exact ⟨rfl, HB.out⟩
  · obtain ⟨p, rfl⟩ := Int.eq_ofNat_of_zero_le a0
    obtain ⟨q, rfl⟩ := Int.eq_ofNat_of_zero_le b0
    show Calls Tryd.prog 25 #[.string ⟨(99 :: textB p q).toArray⟩] w fun e w' => e = .returned (.tuple #[.agg #[.int .i64 2, .int .i64 0, .int .u64 (p : Int), .int .u64 (q : Int), .int .i64 0], .bool true]) ∧ Below w.heap.size w w'
    have C1 := Lib.hid (cut_one 99 (textB p q))
    have hnn := ne_nil (l := textB p q) (c := 99) (by decide)
    have HN := Lib.hid (fun (W : World) => parse_any ⟨(textB p q).toArray⟩ W)
    rw [parse_text p q (by omega) (by omega)] at HN
    obtain ⟨s, hs⟩ : ∃ s : ByteArray, (⟨(99 :: textB p q).toArray⟩ : ByteArray) = s := ⟨_, rfl⟩
    obtain ⟨s2, hs2⟩ : ∃ s : ByteArray, (⟨(textB p q).toArray⟩ : ByteArray) = s := ⟨_, rfl⟩
    rw [hs2] at HN C1
    rw [hs] at C1 hnn ⊢
    clear hs hs2 n0 n1 a0 a1 b0 b1 r0 r1
    go_enter Tryd.func25, Tryd.ntmps25
    go_wp2_with fail
    refine (C1.out _).mono ?_
    rintro e wx ⟨rfl, rfl⟩
    go_wp2_with fail
    refine (HN.out _).mono ?_
    rintro e wx ⟨rfl, rfl⟩
    go_wp2_with fail
    refine (complex_any _ _ _).mono ?_
    rintro e w1 ⟨rfl, hb1⟩
    have HX1 := Lib.hid (blk_below HX0.out hb1)
    have HB1 := Lib.hid (HB0.out.trans (hb1.mono HB0.out.size))
    have HT1 := Lib.hid (HT0.out.below hb1)
    clear hb1
    obtain ⟨w3, h1, h2, h3⟩ := store5 HX1.out ⟨2, 0, (p : Int), (q : Int), 0⟩
    have H1 := Lib.hid h1
    have H2 := Lib.hid h2
    have HB := Lib.hid (HB1.out.trans (below_of_grown h3 (Nat.le_refl _) HB1.out.size))
    clear h1 h2 h3
    go_wp2_with (refine store_named (P := Tryd.prog) rfl 24 (.tmp 2) (.tmp 30) rfl w.heap.size 0 #[.int .i64 2, .int .i64 0, .int .u64 (p : Int), .int .u64 (q : Int), .int .i64 0] rfl rfl (there5 HX1.out) infoV (one5 _ _ _ _ _) H1.out ?_)
    (try simp only [Exit.inBlock, Exit.then])
    refine bodyPost_ret (results_ct rfl _ _ w.heap.size 24 _ (0, 0) _ rfl H2.out Tryd.underlying24 rfl infoV) rfl ?_
    exact ⟨rfl, HB.out⟩
  · show Calls Tryd.prog 25 #[.string ⟨(35 :: Lib.itoa ref).toArray⟩] w fun e w' => e = .returned (.tuple #[.agg #[.int .i64 3, .int .i64 0, .int .u64 0, .int .u64 0, .int .i64 ref], .bool true]) ∧ Below w.heap.size w w'
    have HN := Lib.hid (fun (W : World) (h : Tab W) => number_itoa ref r0 r1 W h)
    have C1 := Lib.hid (cut_not ⟨(35 :: Lib.itoa ref).toArray⟩ ⟨#[99]⟩ (not_prefix 99 (by decide)))
    have C2 := Lib.hid (cut_one 35 (Lib.itoa ref))
    have hnn := ne_nil (l := Lib.itoa ref) (c := 35) (by decide)
    have hrw : IntKind.i64.wrap ref = ref := Go.IntWalk.i64_in _ ⟨r0, r1⟩
    obtain ⟨s, hs⟩ : ∃ s : ByteArray, (⟨(35 :: Lib.itoa ref).toArray⟩ : ByteArray) = s := ⟨_, rfl⟩
    obtain ⟨s2, hs2⟩ : ∃ s : ByteArray, (⟨(Lib.itoa ref).toArray⟩ : ByteArray) = s := ⟨_, rfl⟩
    rw [hs2] at HN C2
    rw [hs] at C1 C2 hnn ⊢
    clear hs hs2 n0 n1 a0 a1 b0 b1 r0 r1
    go_enter Tryd.func25, Tryd.ntmps25
    go_wp2_with fail
    refine (C1.out _).mono ?_
    rintro e wx ⟨rfl, rfl⟩
    go_wp2_with fail
    refine (C2.out _).mono ?_
    rintro e wx ⟨rfl, rfl⟩
    go_wp2_with fail
    refine (HN.out _ HT0.out).mono ?_
    rintro e w1 ⟨rfl, hb1⟩
    have HX1 := Lib.hid (blk_below HX0.out hb1)
    have HB1 := Lib.hid (HB0.out.trans (hb1.mono HB0.out.size))
    have HT1 := Lib.hid (HT0.out.below hb1)
    clear hb1
    go_wp2_with fail
    refine (ref_any _ _).mono ?_
    rintro e w2 ⟨rfl, hb2⟩
    have HX2 := Lib.hid (blk_below HX1.out hb2)
    have HB2 := Lib.hid (HB1.out.trans (hb2.mono HB1.out.size))
    have HT2 := Lib.hid (HT1.out.below hb2)
    clear hb2
    obtain ⟨w3, h1, h2, h3⟩ := store5 HX2.out ⟨3, 0, 0, 0, ref⟩
    have H1 := Lib.hid h1
    have H2 := Lib.hid h2
    have HB := Lib.hid (HB2.out.trans (below_of_grown h3 (Nat.le_refl _) HB2.out.size))
    clear h1 h2 h3
    go_wp2_with (refine store_named (P := Tryd.prog) rfl 24 (.tmp 2) (.tmp 48) rfl w.heap.size 0 #[.int .i64 3, .int .i64 0, .int .u64 0, .int .u64 0, .int .i64 ref] rfl rfl (there5 HX2.out) infoV (one5 _ _ _ _ _) H1.out ?_)
    (try simp only [Exit.inBlock, Exit.then])
    refine bodyPost_ret (results_ct rfl _ _ w.heap.size 24 _ (0, 0) _ rfl H2.out Tryd.underlying24 rfl infoV) rfl ?_
    exact ⟨rfl, HB.out⟩
end Go.Proofs.YtacfddlclbelmaaDoor.Vx
