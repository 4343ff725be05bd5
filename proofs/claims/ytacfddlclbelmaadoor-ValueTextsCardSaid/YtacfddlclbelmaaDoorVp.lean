/-
  Decimals: value.number where the text is a decimal of 64 bits; the law's own call (awake).
-/
import Derived.Test.YtacfddlclbelmaaDoorVb
import Derived.Test.YtacfddlclbelmaaDoorLs
import Derived.Lib.LaidTab
import Derived.WalkSmall
import Derived.Lib.AppendIntMem
import Derived.Lib.AtoiErrMem
namespace Go.Proofs.YtacfddlclbelmaaDoor.Vp
open Go.RowKit Go.ChangeShapes Go.WideShapes Go.Proofs.YtacfddlclbelmaaDoorW.PrintWords Go.Proofs.YtacfddlclbelmaaDoor.Ba Go.Proofs.YtacfddlclbelmaaDoor.Va Go.Proofs.YtacfddlclbelmaaDoor.Vb
set_option linter.unusedVariables false
set_option linter.unusedSimpArgs false
set_option maxRecDepth 100000
set_option maxHeartbeats 8000000
/-- The table that strconv's numerals read. -/
def Tab (w : World) : Prop := Lib.TabIs Tryd.prog w "internal/strconv.uint64pow10" .u64 Lib.pow10Tab
theorem tabNum : ∃ g, Tryd.prog.globalNamed "internal/strconv.uint64pow10" = some g := ⟨1, by kernel_rfl⟩
theorem Tab.below {w w' : World} (h : Tab w) (hb : Below w.heap.size w w') : Tab w' := by
  obtain ⟨g, hg⟩ := tabNum
  unfold Tab Lib.TabIs World.var? at h ⊢
  rw [hg] at h ⊢
  simp only [Option.bind_some] at h ⊢
  have hlt : g < w.heap.size := by
    rcases Nat.lt_or_ge g w.heap.size with h' | h'
    · exact h'
    · rw [Array.getElem?_eq_none h'] at h; cases h
  rw [hb.block g hlt]
  exact h
theorem formatInt (n : Int) (h0 : -9223372036854775808 ≤ n) (h1 : n ≤ 9223372036854775807) (w : World) (ht : Tab w) :
    Calls Tryd.prog 41 #[.int .i64 n, .int .i64 10] w fun e w' => e = .returned (.string ⟨(Lib.itoa n).toArray⟩) ∧ Below w.heap.size w w' :=
  (Ls.formatInt n h0 h1 w ht).mono fun e w' ⟨he, k, os, hw⟩ => ⟨he, by rw [hw]; exact Lib.below_grow _ _ (Nat.le_refl _) _ _⟩
theorem itoa (n : Int) (h0 : -9223372036854775808 ≤ n) (h1 : n ≤ 9223372036854775807) (w : World) (ht : Tab w) :
    Calls Tryd.prog 43 #[.int .i64 n] w fun e w' => e = .returned (.string ⟨(Lib.itoa n).toArray⟩) ∧ Below w.heap.size w w' :=
  (Ls.itoa n h0 h1 w ht).mono fun e w' ⟨he, k, os, hw⟩ => ⟨he, by rw [hw]; exact Lib.below_grow _ _ (Nat.le_refl _) _ _⟩
theorem parseInt_ok (s : ByteArray) (hmax : s.size ≤ 9223372036854775806) (v : Int) (h : Lib.parseIntB 64 s.data.toList = .ok v) (w : World) :
    Calls Tryd.prog 48 #[.string s, .int .i64 10, .int .i64 64] w fun e w' => e = .returned (.tuple #[.int .i64 v, .nilIface]) ∧ Below w.heap.size w w' :=
  (Ls.parseInt_ok s hmax v h w).mono fun e w' ⟨he, hw⟩ => ⟨he, by rcases hw with rfl | ⟨t, rfl⟩; exact Below.refl _ _; exact Lib.bytesWorld_below _ _ _⟩
/-- A decimal is read, and held against its own text. -/
theorem number_ok (s : ByteArray) (hmax : s.size ≤ 9223372036854775806) (v : Int) (h : Lib.parseIntB 64 s.data.toList = .ok v) (h0 : -9223372036854775808 ≤ v) (h1 : v ≤ 9223372036854775807) (w : World) (ht : Tab w) :
    Calls Tryd.prog 38 #[.string s] w fun e w' => e = .returned (.tuple #[.int .i64 v, .bool ((⟨(Lib.itoa v).toArray⟩ : ByteArray).toList == s.toList)]) ∧ Below w.heap.size w w' := by
  have HP := Lib.hid (fun (W : World) => parseInt_ok s hmax v h W)
  have HF := Lib.hid (fun (W : World) (h : Tab W) => formatInt v h0 h1 W h)
  have HT := Lib.hid ht
  obtain ⟨q, hq⟩ : ∃ q : ByteArray, (⟨(Lib.itoa v).toArray⟩ : ByteArray) = q := ⟨_, rfl⟩
  rw [hq] at HF ⊢
  clear h h0 h1 ht hq
  go_enter Tryd.func38, Tryd.ntmps38
  go_wp2_with fail
  refine (HP.out _).mono ?_
  rintro e w1 ⟨rfl, hb1⟩
  have HT1 := Lib.hid (HT.out.below hb1)
  have HB1 := Lib.hid hb1
  clear hb1
  go_wp2_with fail
  refine (HF.out _ HT1.out).mono ?_
  rintro e w2 ⟨rfl, hb2⟩
  have HB2 := Lib.hid (HB1.out.trans (hb2.mono HB1.out.size))
  clear hb2
  go_wp2
  go_ret2
  exact ⟨rfl, HB2.out⟩
theorem m1_parse : Lib.parseIntB 64 (⟨#[45, 49]⟩ : ByteArray).data.toList = .ok (-1) := by decide +kernel
theorem m1_itoa : (⟨(Lib.itoa (-1)).toArray⟩ : ByteArray) = ⟨#[45, 49]⟩ := by
  show ByteArray.mk (Lib.itoa (-1)).toArray = _
  unfold Lib.itoa
  rw [if_pos (by omega)]
  show ByteArray.mk (45 :: Lib.decDigits 1).toArray = _
  unfold Lib.decDigits
  rfl
theorem m1_number (w : World) (ht : Tab w) : Calls Tryd.prog 38 #[.string ⟨#[45, 49]⟩] w fun e w' => e = .returned (.tuple #[.int .i64 (-1), .bool true]) ∧ Below w.heap.size w w' := by
  refine (number_ok ⟨#[45, 49]⟩ (by decide) (-1) m1_parse (by omega) (by omega) w ht).mono fun e w' ⟨he, hb⟩ => ⟨?_, hb⟩
  rw [he, m1_itoa]
  simp
theorem parse_m1 (w : World) (ht : Tab w) : Calls Tryd.prog 25 #[.string ⟨#[35, 45, 49]⟩] w fun e w' => e = .returned (.tuple #[agg5 ⟨3, 0, 0, 0, -1⟩, .bool true]) ∧ Below w.heap.size w w' := by
  have hz := hz24'
  have HX0 := Lib.hid (show Bx5 (w.alloc (.cells #[.int .i64 0, .int .i64 0, .int .u64 0, .int .u64 0, .int .i64 0] 24)) w.heap.size z5 from heap_alloc_new w _)
  have HB0 := Lib.hid (bel_one w (.cells #[.int .i64 0, .int .i64 0, .int .u64 0, .int .u64 0, .int .i64 0] 24))
  obtain ⟨w0, hw0⟩ : ∃ w0, w.alloc (.cells #[.int .i64 0, .int .i64 0, .int .u64 0, .int .u64 0, .int .i64 0] 24) = w0 := ⟨_, rfl⟩
  rw [hw0] at HX0 HB0
  have HT0 := Lib.hid (ht.below HB0.out)
  clear ht
  go_enter Tryd.func25, Tryd.ntmps25
  go_wp2_with fail
  refine (Ls.cutPrefix _ _ _).mono ?_
  rintro e w1 ⟨rfl, rfl⟩
  rw [show Lib.hasPrefix (⟨#[35, 45, 49]⟩ : ByteArray).data.toList (⟨#[99]⟩ : ByteArray).data.toList = false by decide +kernel]
  go_wp2_with fail
  refine (Ls.cutPrefix _ _ _).mono ?_
  rintro e w1 ⟨rfl, rfl⟩
  rw [show Lib.hasPrefix (⟨#[35, 45, 49]⟩ : ByteArray).data.toList (⟨#[35]⟩ : ByteArray).data.toList = true by decide +kernel, show (⟨(Lib.trimPrefix (⟨#[35, 45, 49]⟩ : ByteArray).data.toList (⟨#[35]⟩ : ByteArray).data.toList).toArray⟩ : ByteArray) = ⟨#[45, 49]⟩ by decide +kernel]
  go_wp2_with fail
  refine (m1_number _ HT0.out).mono ?_
  rintro e w1 ⟨rfl, hb1⟩
  have HX1 := Lib.hid (blk_below HX0.out hb1)
  have HB1 := Lib.hid (HB0.out.trans (hb1.mono HB0.out.size))
  clear hb1
  go_wp2_with fail
  refine (ref_any _ _).mono ?_
  rintro e w2 ⟨rfl, hb2⟩
  have HX2 := Lib.hid (blk_below HX1.out hb2)
  have HB2 := Lib.hid (HB1.out.trans (hb2.mono HB1.out.size))
  clear hb2
  obtain ⟨w3, h1, h2, h3⟩ := store5 HX2.out ⟨3, 0, 0, 0, -1⟩
  have H1 := Lib.hid h1
  have H2 := Lib.hid h2
  have HB := Lib.hid (HB2.out.trans (below_of_grown h3 (Nat.le_refl _) HB2.out.size))
  clear h1 h2 h3
  go_wp2_with (refine store_named (P := Tryd.prog) rfl 24 (.tmp 2) (.tmp 48) rfl w.heap.size 0 #[.int .i64 3, .int .i64 0, .int .u64 0, .int .u64 0, .int .i64 (-1)] rfl rfl (there5 HX2.out) infoV (one5 _ _ _ _ _) H1.out ?_)
  (try simp only [Exit.inBlock, Exit.then])
  refine bodyPost_ret (results_ct rfl _ _ w.heap.size 24 _ (0, 0) _ rfl H2.out Tryd.underlying24 rfl infoV) rfl ?_
  exact ⟨rfl, HB.out⟩
theorem awake_any (w : World) (ht : Tab w) : Calls Tryd.prog 16 #[] w fun e w' => e = .returned (.bool true) ∧ Below w.heap.size w w' := by
  have hz := hz24'
  have HT := Lib.hid ht
  clear ht
  go_enter Tryd.func16, Tryd.ntmps16
  go_wp2_with fail
  refine (ref_any _ _).mono ?_
  rintro e w1 ⟨rfl, hb1⟩
  have HB1 := Lib.hid hb1
  have HT1 := Lib.hid (HT.out.below hb1)
  clear hb1
  go_wp2_with fail
  refine (words_any _ _ _ _ _ _ (by decide) _).mono ?_
  rintro e w2 ⟨A, c, rfl, hc, hr, hb2⟩
  have hv : (wordsV 3 ⟨3, 0, 0, 0, 4⟩) = some [5] := by decide
  rw [hv] at hr ⊢
  dsimp only [Option.getD_some, Option.isSome_some, List.length_cons, List.length_nil] at hr ⊢
  obtain ⟨ad, rfl, h5⟩ := hr 0 (by decide)
  have HB2 := Lib.hid (HB1.out.trans (hb2.mono HB1.out.size))
  have HT2 := Lib.hid (HT1.out.below hb2)
  have hs : (ad.add 0).spot = none := World.cell?_spot h5
  obtain ⟨b, o, s⟩ := ad
  have hs' : s = none := by simpa [Addr.add] using hs
  subst hs'
  have H5 : w2.cell? ⟨b, o, none⟩ = some (.int .u64 5) := by rw [add_at] at h5; exact h5
  have HP := Lib.hid H5
  clear hb2 hr hs h5 H5 hc
  go_wp2_with fail
  refine (parse_m1 _ HT2.out).mono ?_
  rintro e w3 ⟨rfl, hb3⟩
  have HB3 := Lib.hid (HB2.out.trans (hb3.mono HB2.out.size))
  obtain ⟨w4, h1, h2, h3⟩ := Vb.stored w3 ⟨3, 0, 0, 0, -1⟩
  have HT3 := Lib.hid (there5 (x := z5) (heap_alloc_new w3 (.cells #[.int .i64 0, .int .i64 0, .int .u64 0, .int .u64 0, .int .i64 0] 24)))
  have H1 := Lib.hid h1
  have hp4 := cell_old (cell_old HP.out hb3.block) h3.block
  have HB4 := Lib.hid (HB3.out.trans (h3.mono HB3.out.size))
  obtain ⟨q0, q1, q2, q3, q4⟩ := Bx5.cells h2
  clear hb3 h1 h2 h3
  go_wp2_with (refine store_named (P := Tryd.prog) rfl 24 (.tmp 3) (.tmp 12) rfl w3.heap.size 0 #[.int .i64 3, .int .i64 0, .int .u64 0, .int .u64 0, .int .i64 (-1)] rfl rfl HT3.out infoV (one5 _ _ _ _ _) H1.out ?_)
  go_ret
  exact ⟨rfl, HB4.out⟩
end Go.Proofs.YtacfddlclbelmaaDoor.Vp
