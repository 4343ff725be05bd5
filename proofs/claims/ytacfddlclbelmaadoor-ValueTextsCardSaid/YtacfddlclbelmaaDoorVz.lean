/-
  Any text as a value: value.Parse and the reference's ParseValue.
-/
import Derived.Test.YtacfddlclbelmaaDoorVn
import Derived.Test.YtacfddlclbelmaaDoorNr
namespace Go.Proofs.YtacfddlclbelmaaDoor.Vz
open Go.RowKit Go.ChangeShapes Go.WideShapes Go.Proofs.YtacfddlclbelmaaDoorW.PrintWords Go.Proofs.YtacfddlclbelmaaDoor.Ba Go.Proofs.YtacfddlclbelmaaDoor.Va Go.Proofs.YtacfddlclbelmaaDoor.Vb Go.Proofs.YtacfddlclbelmaaDoor.Vp Go.Proofs.YtacfddlclbelmaaDoor.Vx Go.Proofs.YtacfddlclbelmaaDoor.Dn Go.Proofs.YtacfddlclbelmaaDoor.Fb Go.Proofs.YtacfddlclbelmaaDoor.Vn Go.Proofs.YtacfddlclbelmaaDoor.Nr Go.Proofs.YtacfddlclbelmaaDoor.Ps Go.Proofs.YtacfddlclbelmaaDoor.Rp
set_option linter.unusedVariables false
set_option linter.unusedSimpArgs false
set_option maxRecDepth 100000
set_option maxHeartbeats 8000000
def cO (s : ByteArray) : Option (Nat × Nat) :=
  if s.size = 33 then
    if s.data.toList.getD 16 0 = 44 then
      match wordFrom 0 (s.data.toList.take 16), wordFrom 0 (s.data.toList.drop 17) with
      | some p, some q => some (p, q)
      | _, _ => none
    else none
  else none
theorem cO_some {s : ByteArray} {p q : Nat} (h : cO s = some (p, q)) : parseV s = .tuple #[.complex .f64 p q, .bool true] := by
  unfold cO at h
  unfold parseV
  split at h
  · rename_i h1
    rw [if_pos h1]
    split at h
    · rename_i h2
      rw [if_pos h2]
      split at h
      · rename_i a b ha hb
        rw [ha, hb]
        injection h with h
        injection h with h3 h4
        rw [h3, h4]
      · cases h
    · cases h
  · cases h
theorem cO_none {s : ByteArray} (h : cO s = none) : parseV s = .tuple #[.complex .f64 0 0, .bool false] := by
  unfold cO at h
  unfold parseV
  split at h
  · rename_i h1
    rw [if_pos h1]
    split at h
    · rename_i h2
      rw [if_pos h2]
      split at h
      · cases h
      · split
        · rename_i hno x1 x2 a b ha hb
          exact (hno _ _ ha hb).elim
        · rfl
    · rename_i h2
      rw [if_neg h2]
  · rename_i h1
    rw [if_neg h1]
inductive Sh (s : ByteArray) : Option V5 → Prop
  | nil : s = ⟨#[110, 105, 108]⟩ → Sh s (some ⟨0, 0, 0, 0, 0⟩)
  | cpl (r : List UInt8) : s = ⟨(99 :: r).toArray⟩ → Sh s ((cO ⟨r.toArray⟩).map fun pq => ⟨2, 0, pq.1, pq.2, 0⟩)
  | ref (r : List UInt8) : s = ⟨(35 :: r).toArray⟩ → Sh s ((numO r).map fun x => ⟨3, 0, 0, 0, x⟩)
  | num : s ≠ ⟨#[110, 105, 108]⟩ → Lib.hasPrefix s.data.toList [99] = false → Lib.hasPrefix s.data.toList [35] = false → Sh s ((numO s.data.toList).map fun x => ⟨1, x, 0, 0, 0⟩)
theorem ext_list {s : ByteArray} {l : List UInt8} (h : s.data.toList = l) : s = ⟨l.toArray⟩ := by
  apply ByteArray.ext
  rw [← h]
theorem sh_any (s : ByteArray) : ∃ o, Sh s o := by
  by_cases h0 : s = ⟨#[110, 105, 108]⟩
  · exact ⟨_, .nil h0⟩
  · rcases hl : s.data.toList with _ | ⟨c, r⟩
    · exact ⟨_, .num h0 (by rw [hl]; rfl) (by rw [hl]; rfl)⟩
    · by_cases h1 : c = 99
      · subst h1
        exact ⟨_, .cpl r (ext_list hl)⟩
      · by_cases h2 : c = 35
        · subst h2
          exact ⟨_, .ref r (ext_list hl)⟩
        · refine ⟨_, .num h0 ?_ ?_⟩
          · rw [hl]; show List.isPrefixOf [99] (c :: r) = false; simp [List.isPrefixOf, Ne.symm h1]
          · rw [hl]; show List.isPrefixOf [35] (c :: r) = false; simp [List.isPrefixOf, Ne.symm h2]
theorem nil_beq {s : ByteArray} (h : s ≠ ⟨#[110, 105, 108]⟩) : (s.toList == [110, 105, 108]) = false := by
  rw [eq_list]
  exact decide_eq_false (fun e => h (ext_list e))
theorem size_cons (c : UInt8) (r : List UInt8) : (⟨(c :: r).toArray⟩ : ByteArray).size = r.length + 1 := by
  show (c :: r).toArray.size = _
  simp
theorem size_list (r : List UInt8) : (⟨r.toArray⟩ : ByteArray).size = r.length := by
  show r.toArray.size = _
  simp
theorem sh_kd {s : ByteArray} {o : V5} (h : Sh s (some o)) : o.kd = 0 ∨ o.kd = 1 ∨ o.kd = 2 ∨ o.kd = 3 := by
  generalize hx : some o = x at h
  cases h with
  | nil _ => obtain rfl := Option.some.inj hx; exact .inl rfl
  | cpl r _ =>
    obtain ⟨a, ha, rfl⟩ := Option.map_eq_some_iff.1 hx.symm
    exact .inr (.inr (.inl rfl))
  | ref r _ =>
    obtain ⟨a, ha, rfl⟩ := Option.map_eq_some_iff.1 hx.symm
    exact .inr (.inr (.inr rfl))
  | num _ _ _ =>
    obtain ⟨a, ha, rfl⟩ := Option.map_eq_some_iff.1 hx.symm
    exact .inr (.inl rfl)
def PPost (o : Option V5) (w : World) (e : Ending) (w' : World) : Prop := e = .returned (.tuple #[agg5 (o.getD ⟨0, 0, 0, 0, 0⟩), .bool o.isSome]) ∧ Below w.heap.size w w'
theorem parse25 (s : ByteArray) (hs : s.size ≤ 281474976710656) (o : Option V5) (ho : Sh s o) (w : World) (ht : Sn w) : Calls Tryd.prog 25 #[.string s] w (PPost o w) := by
  have hz := hz24'
  have HX0 := Lib.hid (show Bx5 (w.alloc (.cells #[.int .i64 0, .int .i64 0, .int .u64 0, .int .u64 0, .int .i64 0] 24)) w.heap.size z5 from heap_alloc_new w _)
  have HB0 := Lib.hid (bel_one w (.cells #[.int .i64 0, .int .i64 0, .int .u64 0, .int .u64 0, .int .i64 0] 24))
  obtain ⟨w0, hw0⟩ : ∃ w0, w.alloc (.cells #[.int .i64 0, .int .i64 0, .int .u64 0, .int .u64 0, .int .i64 0] 24) = w0 := ⟨_, rfl⟩
  rw [hw0] at HX0 HB0
  have HT0 := Lib.hid (ht.below HB0.out)
  clear ht
  cases ho with
  | nil e =>
    subst e
    clear hs
    go_enter Tryd.func25, Tryd.ntmps25
    go_wp2_with fail
    refine (nil_any _).mono ?_
    rintro e w1 ⟨rfl, hbn⟩
    have HX1 := Lib.hid (blk_below HX0.out hbn)
    have HB1 := Lib.hid (HB0.out.trans (hbn.mono HB0.out.size))
    have HT1 := Lib.hid (HT0.out.below hbn)
    clear hbn
    obtain ⟨w3, h1, h2, h3⟩ := store5 HX1.out ⟨0, 0, 0, 0, 0⟩
    have H1 := Lib.hid h1
    have H2 := Lib.hid h2
    have HB := Lib.hid (HB1.out.trans (below_of_grown h3 (Nat.le_refl _) HB1.out.size))
    clear h1 h2 h3
    go_wp2_with (first | (refine store_named (P := Tryd.prog) rfl 24 (.tmp 2) (.tmp 14) rfl w.heap.size 0 #[.int .i64 0, .int .i64 0, .int .u64 0, .int .u64 0, .int .i64 0] rfl rfl (there5 HX1.out) infoV (one5 _ _ _ _ _) H1.out ?_) | fail)
    (try simp only [Exit.inBlock, Exit.then])
    refine bodyPost_ret (results_ct rfl _ _ w.heap.size 24 _ (0, 0) _ rfl H2.out Tryd.underlying24 rfl infoV) rfl ?_
    exact ⟨rfl, HB.out⟩
  | cpl r e =>
    have hsz : r.length ≤ 281474976710656 := by rw [e, size_cons] at hs; omega
    have C1 := Lib.hid (cut_one 99 r)
    have hnn := ne_nil (l := r) (c := 99) (by decide)
    rw [← e] at C1 hnn
    clear e
    have HP := Lib.hid (fun (W : World) => Ps.parse_any ⟨r.toArray⟩ W)
    cases hc : cO ⟨r.toArray⟩ with
    | none =>
      rw [cO_none hc] at HP
      obtain ⟨s2, hs2⟩ : ∃ s2 : ByteArray, (⟨r.toArray⟩ : ByteArray) = s2 := ⟨_, rfl⟩
      rw [hs2] at HP C1
      clear hs2 hc hsz hs
      go_enter Tryd.func25, Tryd.ntmps25
      go_wp2_with fail
      refine (C1.out _).mono ?_
      rintro e wx ⟨rfl, rfl⟩
      go_wp2_with fail
      refine (HP.out _).mono ?_
      rintro e wx ⟨rfl, rfl⟩
      obtain ⟨w3, h1, h2, h3⟩ := store5 HX0.out ⟨0, 0, 0, 0, 0⟩
      have H1 := Lib.hid h1
      have H2 := Lib.hid h2
      have HB := Lib.hid (HB0.out.trans (below_of_grown h3 (Nat.le_refl _) HB0.out.size))
      clear h1 h2 h3
      go_wp2_with (first | (refine store_named (P := Tryd.prog) rfl 24 (.tmp 2) (.tmp 28) rfl w.heap.size 0 #[.int .i64 0, .int .i64 0, .int .u64 0, .int .u64 0, .int .i64 0] rfl rfl (there5 HX0.out) infoV (one5 _ _ _ _ _) H1.out ?_) | fail)
      (try simp only [Exit.inBlock, Exit.then])
      refine bodyPost_ret (results_ct rfl _ _ w.heap.size 24 _ (0, 0) _ rfl H2.out Tryd.underlying24 rfl infoV) rfl ?_
      exact ⟨rfl, HB.out⟩
    | some pq =>
      obtain ⟨p, q⟩ := pq
      rw [cO_some hc] at HP
      obtain ⟨s2, hs2⟩ : ∃ s2 : ByteArray, (⟨r.toArray⟩ : ByteArray) = s2 := ⟨_, rfl⟩
      rw [hs2] at HP C1
      clear hs2 hc hsz hs
      go_enter Tryd.func25, Tryd.ntmps25
      go_wp2_with fail
      refine (C1.out _).mono ?_
      rintro e wx ⟨rfl, rfl⟩
      go_wp2_with fail
      refine (HP.out _).mono ?_
      rintro e wx ⟨rfl, rfl⟩
      go_wp2_with fail
      refine (complex_any _ _ _).mono ?_
      rintro e w1 ⟨rfl, hbn⟩
      have HX1 := Lib.hid (blk_below HX0.out hbn)
      have HB1 := Lib.hid (HB0.out.trans (hbn.mono HB0.out.size))
      have HT1 := Lib.hid (HT0.out.below hbn)
      clear hbn
      obtain ⟨w3, h1, h2, h3⟩ := store5 HX1.out ⟨2, 0, (p : Int), (q : Int), 0⟩
      have H1 := Lib.hid h1
      have H2 := Lib.hid h2
      have HB := Lib.hid (HB1.out.trans (below_of_grown h3 (Nat.le_refl _) HB1.out.size))
      clear h1 h2 h3
      go_wp2_with (first | (refine store_named (P := Tryd.prog) rfl 24 (.tmp 2) (.tmp 30) rfl w.heap.size 0 #[.int .i64 2, .int .i64 0, .int .u64 (p : Int), .int .u64 (q : Int), .int .i64 0] rfl rfl (there5 HX1.out) infoV (one5 _ _ _ _ _) H1.out ?_) | fail)
      (try simp only [Exit.inBlock, Exit.then])
      refine bodyPost_ret (results_ct rfl _ _ w.heap.size 24 _ (0, 0) _ rfl H2.out Tryd.underlying24 rfl infoV) rfl ?_
      exact ⟨rfl, HB.out⟩
  | ref r e =>
    have hsz : r.length ≤ 281474976710656 := by rw [e, size_cons] at hs; omega
    have C1 := Lib.hid (cut_not ⟨(35 :: r).toArray⟩ ⟨#[99]⟩ (not_prefix 99 (by decide)))
    have C2 := Lib.hid (cut_one 35 r)
    have hnn := ne_nil (l := r) (c := 35) (by decide)
    rw [← e] at C1 C2 hnn
    clear e
    have HP := Lib.hid (fun (W : World) (h : Sn W) => number_any ⟨r.toArray⟩ (by rw [size_list]; exact hsz) W h)
    unfold NPost at HP
    have HNO : Hid (numO (⟨r.toArray⟩ : ByteArray).data.toList = numO r) := Lib.hid rfl
    rw [HNO.out] at HP
    obtain ⟨s2, hs2⟩ : ∃ s2 : ByteArray, (⟨r.toArray⟩ : ByteArray) = s2 := ⟨_, rfl⟩
    rw [hs2] at HP C2
    clear hs2 hsz hs HNO
    cases hc : numO r with
    | none =>
      rw [hc] at HP
      clear hc
      go_enter Tryd.func25, Tryd.ntmps25
      go_wp2_with fail
      refine (C1.out _).mono ?_
      rintro e wx ⟨rfl, rfl⟩
      go_wp2_with fail
      refine (C2.out _).mono ?_
      rintro e wx ⟨rfl, rfl⟩
      go_wp2_with fail
      refine (HP.out _ HT0.out).mono ?_
      rintro e w1 ⟨x, rfl, _, hbn⟩
      have HX1 := Lib.hid (blk_below HX0.out hbn)
      have HB1 := Lib.hid (HB0.out.trans (hbn.mono HB0.out.size))
      have HT1 := Lib.hid (HT0.out.below hbn)
      clear hbn
      obtain ⟨w3, h1, h2, h3⟩ := store5 HX1.out ⟨0, 0, 0, 0, 0⟩
      have H1 := Lib.hid h1
      have H2 := Lib.hid h2
      have HB := Lib.hid (HB1.out.trans (below_of_grown h3 (Nat.le_refl _) HB1.out.size))
      clear h1 h2 h3
      go_wp2_with (first | (refine store_named (P := Tryd.prog) rfl 24 (.tmp 2) (.tmp 44) rfl w.heap.size 0 #[.int .i64 0, .int .i64 0, .int .u64 0, .int .u64 0, .int .i64 0] rfl rfl (there5 HX1.out) infoV (one5 _ _ _ _ _) H1.out ?_) | fail)
      (try simp only [Exit.inBlock, Exit.then])
      refine bodyPost_ret (results_ct rfl _ _ w.heap.size 24 _ (0, 0) _ rfl H2.out Tryd.underlying24 rfl infoV) rfl ?_
      exact ⟨rfl, HB.out⟩
    | some v =>
      rw [hc] at HP
      clear hc
      go_enter Tryd.func25, Tryd.ntmps25
      go_wp2_with fail
      refine (C1.out _).mono ?_
      rintro e wx ⟨rfl, rfl⟩
      go_wp2_with fail
      refine (C2.out _).mono ?_
      rintro e wx ⟨rfl, rfl⟩
      go_wp2_with fail
      refine (HP.out _ HT0.out).mono ?_
      rintro e w1 ⟨x, rfl, hxv, hbn⟩
      have HX1 := Lib.hid (blk_below HX0.out hbn)
      have HB1 := Lib.hid (HB0.out.trans (hbn.mono HB0.out.size))
      have HT1 := Lib.hid (HT0.out.below hbn)
      clear hbn
      obtain rfl := hxv v rfl
      clear hxv
      go_wp2_with fail
      refine (ref_any _ _).mono ?_
      rintro e w2 ⟨rfl, hbn⟩
      have HX2 := Lib.hid (blk_below HX1.out hbn)
      have HB2 := Lib.hid (HB1.out.trans (hbn.mono HB1.out.size))
      have HT2 := Lib.hid (HT1.out.below hbn)
      clear hbn
      obtain ⟨w3, h1, h2, h3⟩ := store5 HX2.out ⟨3, 0, 0, 0, x⟩
      have H1 := Lib.hid h1
      have H2 := Lib.hid h2
      have HB := Lib.hid (HB2.out.trans (below_of_grown h3 (Nat.le_refl _) HB2.out.size))
      clear h1 h2 h3
      go_wp2_with (first | (refine store_named (P := Tryd.prog) rfl 24 (.tmp 2) (.tmp 48) rfl w.heap.size 0 #[.int .i64 3, .int .i64 0, .int .u64 0, .int .u64 0, .int .i64 x] rfl rfl (there5 HX2.out) infoV (one5 _ _ _ _ _) H1.out ?_) | fail)
      (try simp only [Exit.inBlock, Exit.then])
      refine bodyPost_ret (results_ct rfl _ _ w.heap.size 24 _ (0, 0) _ rfl H2.out Tryd.underlying24 rfl infoV) rfl ?_
      exact ⟨rfl, HB.out⟩
  | num e0 e1 e2 =>
    have C1 := Lib.hid (cut_not s ⟨#[99]⟩ e1)
    have C2 := Lib.hid (cut_not s ⟨#[35]⟩ e2)
    have hnn := nil_beq e0
    have HP := Lib.hid (fun (W : World) (h : Sn W) => number_any s hs W h)
    unfold NPost at HP
    clear e0 e1 e2 hs
    cases hc : numO s.data.toList with
    | none =>
      rw [hc] at HP
      clear hc
      go_enter Tryd.func25, Tryd.ntmps25
      go_wp2_with fail
      refine (C1.out _).mono ?_
      rintro e wx ⟨rfl, rfl⟩
      go_wp2_with fail
      refine (C2.out _).mono ?_
      rintro e wx ⟨rfl, rfl⟩
      go_wp2_with fail
      refine (HP.out _ HT0.out).mono ?_
      rintro e w1 ⟨x, rfl, _, hbn⟩
      have HX1 := Lib.hid (blk_below HX0.out hbn)
      have HB1 := Lib.hid (HB0.out.trans (hbn.mono HB0.out.size))
      have HT1 := Lib.hid (HT0.out.below hbn)
      clear hbn
      obtain ⟨w3, h1, h2, h3⟩ := store5 HX1.out ⟨0, 0, 0, 0, 0⟩
      have H1 := Lib.hid h1
      have H2 := Lib.hid h2
      have HB := Lib.hid (HB1.out.trans (below_of_grown h3 (Nat.le_refl _) HB1.out.size))
      clear h1 h2 h3
      go_wp2_with (first | (refine store_named (P := Tryd.prog) rfl 24 (.tmp 2) (.tmp 44) rfl w.heap.size 0 #[.int .i64 0, .int .i64 0, .int .u64 0, .int .u64 0, .int .i64 0] rfl rfl (there5 HX1.out) infoV (one5 _ _ _ _ _) H1.out ?_) | fail)
      (try simp only [Exit.inBlock, Exit.then])
      refine bodyPost_ret (results_ct rfl _ _ w.heap.size 24 _ (0, 0) _ rfl H2.out Tryd.underlying24 rfl infoV) rfl ?_
      exact ⟨rfl, HB.out⟩
    | some v =>
      rw [hc] at HP
      clear hc
      go_enter Tryd.func25, Tryd.ntmps25
      go_wp2_with fail
      refine (C1.out _).mono ?_
      rintro e wx ⟨rfl, rfl⟩
      go_wp2_with fail
      refine (C2.out _).mono ?_
      rintro e wx ⟨rfl, rfl⟩
      go_wp2_with fail
      refine (HP.out _ HT0.out).mono ?_
      rintro e w1 ⟨x, rfl, hxv, hbn⟩
      have HX1 := Lib.hid (blk_below HX0.out hbn)
      have HB1 := Lib.hid (HB0.out.trans (hbn.mono HB0.out.size))
      have HT1 := Lib.hid (HT0.out.below hbn)
      clear hbn
      obtain rfl := hxv v rfl
      clear hxv
      go_wp2_with fail
      refine (int_any _ _).mono ?_
      rintro e w2 ⟨rfl, hbn⟩
      have HX2 := Lib.hid (blk_below HX1.out hbn)
      have HB2 := Lib.hid (HB1.out.trans (hbn.mono HB1.out.size))
      have HT2 := Lib.hid (HT1.out.below hbn)
      clear hbn
      obtain ⟨w3, h1, h2, h3⟩ := store5 HX2.out ⟨1, x, 0, 0, 0⟩
      have H1 := Lib.hid h1
      have H2 := Lib.hid h2
      have HB := Lib.hid (HB2.out.trans (below_of_grown h3 (Nat.le_refl _) HB2.out.size))
      clear h1 h2 h3
      go_wp2_with (first | (refine store_named (P := Tryd.prog) rfl 24 (.tmp 2) (.tmp 50) rfl w.heap.size 0 #[.int .i64 1, .int .i64 x, .int .u64 0, .int .u64 0, .int .i64 0] rfl rfl (there5 HX2.out) infoV (one5 _ _ _ _ _) H1.out ?_) | fail)
      (try simp only [Exit.inBlock, Exit.then])
      refine bodyPost_ret (results_ct rfl _ _ w.heap.size 24 _ (0, 0) _ rfl H2.out Tryd.underlying24 rfl infoV) rfl ?_
      exact ⟨rfl, HB.out⟩
theorem ext_tail (c : UInt8) (r : List UInt8) : (⟨(c :: r).toArray⟩ : ByteArray).extract 1 (⟨(c :: r).toArray⟩ : ByteArray).size = ⟨r.toArray⟩ := by
  apply ByteArray.ext
  rw [ByteArray.data_extract, size_cons]
  simp
theorem get_cons {s : ByteArray} {c : UInt8} {r : List UInt8} (e : s = ⟨(c :: r).toArray⟩) : ∃ h : 0 < s.size, s[0] = c := by
  subst e
  exact ⟨by rw [size_cons]; omega, rfl⟩
theorem num_pre {s : ByteArray} (c : UInt8) (h : 0 < s.size) (e : Lib.hasPrefix s.data.toList [c] = false) : s[0] ≠ c := by
  intro hc
  have hl : s.data.toList = s[0] :: s.data.toList.drop 1 := by
    have := drop_at s 0 h
    rwa [List.drop_zero] at this
  rw [hl, hc] at e
  have : Lib.hasPrefix (c :: s.data.toList.drop 1) [c] = true := by show List.isPrefixOf [c] (c :: _) = true; simp [List.isPrefixOf]
  rw [this] at e
  cases e
theorem rparse26 (s : ByteArray) (hs : s.size ≤ 281474976710656) (o : Option V5) (ho : Sh s o) (w : World) (ht : Sn w) : Calls Tryd.prog 26 #[.string s] w (PPost o w) := by
  have hz := hz24'
  have HX0 := Lib.hid (show Bx5 (w.alloc (.cells #[.int .i64 0, .int .i64 0, .int .u64 0, .int .u64 0, .int .i64 0] 24)) w.heap.size z5 from heap_alloc_new w _)
  have HB0 := Lib.hid (bel_one w (.cells #[.int .i64 0, .int .i64 0, .int .u64 0, .int .u64 0, .int .i64 0] 24))
  obtain ⟨w0, hw0⟩ : ∃ w0, w.alloc (.cells #[.int .i64 0, .int .i64 0, .int .u64 0, .int .u64 0, .int .i64 0] 24) = w0 := ⟨_, rfl⟩
  rw [hw0] at HX0 HB0
  have HT0 := Lib.hid (ht.below HB0.out)
  clear ht
  cases ho with
  | nil e =>
    subst e
    clear hs
    go_enter Tryd.func26, Tryd.ntmps26
    obtain ⟨w3, h1, h2, h3⟩ := store5 HX0.out ⟨0, 0, 0, 0, 0⟩
    have H1 := Lib.hid h1
    have H2 := Lib.hid h2
    have HB := Lib.hid (HB0.out.trans (below_of_grown h3 (Nat.le_refl _) HB0.out.size))
    clear h1 h2 h3
    go_wp2_with (first | (refine store_named (P := Tryd.prog) rfl 24 (.tmp 2) (.tmp 15) rfl w.heap.size 0 #[.int .i64 0, .int .i64 0, .int .u64 0, .int .u64 0, .int .i64 0] rfl rfl (there5 HX0.out) infoV (one5 _ _ _ _ _) H1.out ?_) | fail)
    (try simp only [Exit.inBlock, Exit.then])
    refine bodyPost_ret (results_ct rfl _ _ w.heap.size 24 _ (0, 0) _ rfl H2.out Tryd.underlying24 rfl infoV) rfl ?_
    exact ⟨rfl, HB.out⟩
  | cpl r e =>
    have hsz : r.length ≤ 281474976710656 := by rw [e, size_cons] at hs; omega
    obtain ⟨hpos, hg⟩ := get_cons e
    have hnn := ne_nil (l := r) (c := 99) (by decide)
    have hex := ext_tail 99 r
    rw [← e] at hnn hex
    clear e
    have k99 : ((s[0].toNat : Int) == 99) = true := by rw [hg]; rfl
    have HP := Lib.hid (fun (W : World) => Rp.rparse_any ⟨r.toArray⟩ W)
    cases hc : cO ⟨r.toArray⟩ with
    | none =>
      rw [cO_none hc] at HP
      obtain ⟨s2, hs2⟩ : ∃ s2 : ByteArray, (⟨r.toArray⟩ : ByteArray) = s2 := ⟨_, rfl⟩
      rw [hs2] at HP hex
      clear hs2 hc hsz hg
      go_enter Tryd.func26, Tryd.ntmps26
      go_wp2_with fail
      refine (HP.out _).mono ?_
      rintro e wx ⟨rfl, rfl⟩
      obtain ⟨w3, h1, h2, h3⟩ := store5 HX0.out ⟨0, 0, 0, 0, 0⟩
      have H1 := Lib.hid h1
      have H2 := Lib.hid h2
      have HB := Lib.hid (HB0.out.trans (below_of_grown h3 (Nat.le_refl _) HB0.out.size))
      clear h1 h2 h3
      go_wp2_with (first | (refine store_named (P := Tryd.prog) rfl 24 (.tmp 2) (.tmp 33) rfl w.heap.size 0 #[.int .i64 0, .int .i64 0, .int .u64 0, .int .u64 0, .int .i64 0] rfl rfl (there5 HX0.out) infoV (one5 _ _ _ _ _) H1.out ?_) | fail)
      (try simp only [Exit.inBlock, Exit.then])
      refine bodyPost_ret (results_ct rfl _ _ w.heap.size 24 _ (0, 0) _ rfl H2.out Tryd.underlying24 rfl infoV) rfl ?_
      exact ⟨rfl, HB.out⟩
    | some pq =>
      obtain ⟨p, q⟩ := pq
      rw [cO_some hc] at HP
      obtain ⟨s2, hs2⟩ : ∃ s2 : ByteArray, (⟨r.toArray⟩ : ByteArray) = s2 := ⟨_, rfl⟩
      rw [hs2] at HP hex
      clear hs2 hc hsz hg
      go_enter Tryd.func26, Tryd.ntmps26
      go_wp2_with fail
      refine (HP.out _).mono ?_
      rintro e wx ⟨rfl, rfl⟩
      go_wp2_with fail
      refine (words35 _ _ _).mono ?_
      rintro e wx ⟨rfl, rfl⟩
      obtain ⟨w3, h1, h2, h3⟩ := store5 HX0.out ⟨2, 0, (p : Int), (q : Int), 0⟩
      have H1 := Lib.hid h1
      have H2 := Lib.hid h2
      have HB := Lib.hid (HB0.out.trans (below_of_grown h3 (Nat.le_refl _) HB0.out.size))
      clear h1 h2 h3
      go_wp2_with (first | (refine store_named (P := Tryd.prog) rfl 24 (.tmp 2) (.tmp 41) rfl w.heap.size 0 #[.int .i64 2, .int .i64 0, .int .u64 (p : Int), .int .u64 (q : Int), .int .i64 0] rfl rfl (there5 HX0.out) infoV (one5 _ _ _ _ _) H1.out ?_) | fail)
      (try simp only [Exit.inBlock, Exit.then])
      refine bodyPost_ret (results_ct rfl _ _ w.heap.size 24 _ (0, 0) _ rfl H2.out Tryd.underlying24 rfl infoV) rfl ?_
      exact ⟨rfl, HB.out⟩
  | ref r e =>
    have hsz : r.length ≤ 281474976710656 := by rw [e, size_cons] at hs; omega
    obtain ⟨hpos, hg⟩ := get_cons e
    have hnn := ne_nil (l := r) (c := 35) (by decide)
    have hex := ext_tail 35 r
    rw [← e] at hnn hex
    clear e
    have k99 : ((s[0].toNat : Int) == 99) = false := by rw [hg]; rfl
    have k35 : ((s[0].toNat : Int) == 35) = true := by rw [hg]; rfl
    have HP := Lib.hid (fun (W : World) => number40 ⟨r.toArray⟩ (by rw [size_list]; exact hsz) W)
    have HNO : Hid (numR (⟨r.toArray⟩ : ByteArray).data.toList = numO r) := Lib.hid (num_same r)
    rw [HNO.out] at HP
    obtain ⟨s2, hs2⟩ : ∃ s2 : ByteArray, (⟨r.toArray⟩ : ByteArray) = s2 := ⟨_, rfl⟩
    rw [hs2] at HP hex
    clear hs2 hsz HNO hg
    cases hc : numO r with
    | none =>
      rw [hc] at HP
      clear hc
      go_enter Tryd.func26, Tryd.ntmps26
      go_wp2_with fail
      refine (HP.out _).mono ?_
      rintro e wx ⟨⟨x, rfl, _⟩, rfl⟩
      obtain ⟨w3, h1, h2, h3⟩ := store5 HX0.out ⟨0, 0, 0, 0, 0⟩
      have H1 := Lib.hid h1
      have H2 := Lib.hid h2
      have HB := Lib.hid (HB0.out.trans (below_of_grown h3 (Nat.le_refl _) HB0.out.size))
      clear h1 h2 h3
      go_wp2_with (first | (refine store_named (P := Tryd.prog) rfl 24 (.tmp 2) (.tmp 59) rfl w.heap.size 0 #[.int .i64 0, .int .i64 0, .int .u64 0, .int .u64 0, .int .i64 0] rfl rfl (there5 HX0.out) infoV (one5 _ _ _ _ _) H1.out ?_) | fail)
      (try simp only [Exit.inBlock, Exit.then])
      refine bodyPost_ret (results_ct rfl _ _ w.heap.size 24 _ (0, 0) _ rfl H2.out Tryd.underlying24 rfl infoV) rfl ?_
      exact ⟨rfl, HB.out⟩
    | some v =>
      rw [hc] at HP
      clear hc
      go_enter Tryd.func26, Tryd.ntmps26
      go_wp2_with fail
      refine (HP.out _).mono ?_
      rintro e wx ⟨⟨x, rfl, hxv⟩, rfl⟩
      obtain rfl := hxv v rfl
      clear hxv
      obtain ⟨w3, h1, h2, h3⟩ := store5 HX0.out ⟨3, 0, 0, 0, x⟩
      have H1 := Lib.hid h1
      have H2 := Lib.hid h2
      have HB := Lib.hid (HB0.out.trans (below_of_grown h3 (Nat.le_refl _) HB0.out.size))
      clear h1 h2 h3
      go_wp2_with (first | (refine store_named (P := Tryd.prog) rfl 24 (.tmp 2) (.tmp 61) rfl w.heap.size 0 #[.int .i64 3, .int .i64 0, .int .u64 0, .int .u64 0, .int .i64 x] rfl rfl (there5 HX0.out) infoV (one5 _ _ _ _ _) H1.out ?_) | fail)
      (try simp only [Exit.inBlock, Exit.then])
      refine bodyPost_ret (results_ct rfl _ _ w.heap.size 24 _ (0, 0) _ rfl H2.out Tryd.underlying24 rfl infoV) rfl ?_
      exact ⟨rfl, HB.out⟩
  | num e0 e1 e2 =>
    have hnn := nil_beq e0
    have HP := Lib.hid (fun (W : World) => number40 s hs W)
    rw [num_same] at HP
    have hfirst : (s.size = 0) ∨ ∃ h : 0 < s.size, ((s[0].toNat : Int) == 99) = false ∧ ((s[0].toNat : Int) == 35) = false := by
      rcases Nat.eq_zero_or_pos s.size with h | h
      · exact .inl h
      · refine .inr ⟨h, ?_, ?_⟩
        · rw [beq_eq_false_iff_ne]; intro hh; exact num_pre 99 h e1 (UInt8.toNat_inj.1 (by rw [show (99 : UInt8).toNat = 99 from rfl]; omega))
        · rw [beq_eq_false_iff_ne]; intro hh; exact num_pre 35 h e2 (UInt8.toNat_inj.1 (by rw [show (35 : UInt8).toNat = 35 from rfl]; omega))
    clear e0 e1 e2
    cases hc : numO s.data.toList with
    | none =>
      rw [hc] at HP
      clear hc
      rcases hfirst with hsz0 | ⟨hpos, k99, k35⟩
      · skip
        go_enter Tryd.func26, Tryd.ntmps26
        go_wp2_with fail
        refine (HP.out _).mono ?_
        rintro e wx ⟨⟨x, rfl, _⟩, rfl⟩
        obtain ⟨w3, h1, h2, h3⟩ := store5 HX0.out ⟨0, 0, 0, 0, 0⟩
        have H1 := Lib.hid h1
        have H2 := Lib.hid h2
        have HB := Lib.hid (HB0.out.trans (below_of_grown h3 (Nat.le_refl _) HB0.out.size))
        clear h1 h2 h3
        go_wp2_with (first | (refine store_named (P := Tryd.prog) rfl 24 (.tmp 2) (.tmp 69) rfl w.heap.size 0 #[.int .i64 0, .int .i64 0, .int .u64 0, .int .u64 0, .int .i64 0] rfl rfl (there5 HX0.out) infoV (one5 _ _ _ _ _) H1.out ?_) | fail)
        (try simp only [Exit.inBlock, Exit.then])
        refine bodyPost_ret (results_ct rfl _ _ w.heap.size 24 _ (0, 0) _ rfl H2.out Tryd.underlying24 rfl infoV) rfl ?_
        exact ⟨rfl, HB.out⟩
      · skip
        go_enter Tryd.func26, Tryd.ntmps26
        go_wp2_with fail
        refine (HP.out _).mono ?_
        rintro e wx ⟨⟨x, rfl, _⟩, rfl⟩
        obtain ⟨w3, h1, h2, h3⟩ := store5 HX0.out ⟨0, 0, 0, 0, 0⟩
        have H1 := Lib.hid h1
        have H2 := Lib.hid h2
        have HB := Lib.hid (HB0.out.trans (below_of_grown h3 (Nat.le_refl _) HB0.out.size))
        clear h1 h2 h3
        go_wp2_with (first | (refine store_named (P := Tryd.prog) rfl 24 (.tmp 2) (.tmp 69) rfl w.heap.size 0 #[.int .i64 0, .int .i64 0, .int .u64 0, .int .u64 0, .int .i64 0] rfl rfl (there5 HX0.out) infoV (one5 _ _ _ _ _) H1.out ?_) | fail)
        (try simp only [Exit.inBlock, Exit.then])
        refine bodyPost_ret (results_ct rfl _ _ w.heap.size 24 _ (0, 0) _ rfl H2.out Tryd.underlying24 rfl infoV) rfl ?_
        exact ⟨rfl, HB.out⟩
    | some v =>
      rw [hc] at HP
      clear hc
      rcases hfirst with hsz0 | ⟨hpos, k99, k35⟩
      · skip
        go_enter Tryd.func26, Tryd.ntmps26
        go_wp2_with fail
        refine (HP.out _).mono ?_
        rintro e wx ⟨⟨x, rfl, hxv⟩, rfl⟩
        obtain rfl := hxv v rfl
        clear hxv
        obtain ⟨w3, h1, h2, h3⟩ := store5 HX0.out ⟨1, x, 0, 0, 0⟩
        have H1 := Lib.hid h1
        have H2 := Lib.hid h2
        have HB := Lib.hid (HB0.out.trans (below_of_grown h3 (Nat.le_refl _) HB0.out.size))
        clear h1 h2 h3
        go_wp2_with (first | (refine store_named (P := Tryd.prog) rfl 24 (.tmp 2) (.tmp 71) rfl w.heap.size 0 #[.int .i64 1, .int .i64 x, .int .u64 0, .int .u64 0, .int .i64 0] rfl rfl (there5 HX0.out) infoV (one5 _ _ _ _ _) H1.out ?_) | fail)
        (try simp only [Exit.inBlock, Exit.then])
        refine bodyPost_ret (results_ct rfl _ _ w.heap.size 24 _ (0, 0) _ rfl H2.out Tryd.underlying24 rfl infoV) rfl ?_
        exact ⟨rfl, HB.out⟩
      · skip
        go_enter Tryd.func26, Tryd.ntmps26
        go_wp2_with fail
        refine (HP.out _).mono ?_
        rintro e wx ⟨⟨x, rfl, hxv⟩, rfl⟩
        obtain rfl := hxv v rfl
        clear hxv
        obtain ⟨w3, h1, h2, h3⟩ := store5 HX0.out ⟨1, x, 0, 0, 0⟩
        have H1 := Lib.hid h1
        have H2 := Lib.hid h2
        have HB := Lib.hid (HB0.out.trans (below_of_grown h3 (Nat.le_refl _) HB0.out.size))
        clear h1 h2 h3
        go_wp2_with (first | (refine store_named (P := Tryd.prog) rfl 24 (.tmp 2) (.tmp 71) rfl w.heap.size 0 #[.int .i64 1, .int .i64 x, .int .u64 0, .int .u64 0, .int .i64 0] rfl rfl (there5 HX0.out) infoV (one5 _ _ _ _ _) H1.out ?_) | fail)
        (try simp only [Exit.inBlock, Exit.then])
        refine bodyPost_ret (results_ct rfl _ _ w.heap.size 24 _ (0, 0) _ rfl H2.out Tryd.underlying24 rfl infoV) rfl ?_
        exact ⟨rfl, HB.out⟩
theorem rtext28 (kd n re im ref : Int) (w : World) (hw : Wf ⟨kd, n, re, im, ref⟩) (ht : Sn w) : Calls Tryd.prog 28 #[.agg #[.int .i64 kd, .int .i64 n, .int .u64 re, .int .u64 im, .int .i64 ref]] w fun e w' =>
    e = .returned (.string ⟨(textV ⟨kd, n, re, im, ref⟩).toArray⟩) ∧ Below w.heap.size w w' := by
  obtain ⟨l, hl⟩ : ∃ l, textV ⟨kd, n, re, im, ref⟩ = l := ⟨_, rfl⟩
  rw [hl]
  unfold textV at hl
  dsimp only at hl
  have HB0 := Lib.hid (bel_one w (.cells #[.int .i64 kd, .int .i64 n, .int .u64 re, .int .u64 im, .int .i64 ref] 24))
  have HT0 := Lib.hid (ht.below HB0.out)
  clear ht
  obtain ⟨n0, n1, a0, a1, b0, b1, r0, r1⟩ := hw
  dsimp only at n0 n1 a0 a1 b0 b1 r0 r1
  by_cases h0 : kd = 0
  · subst h0
    obtain rfl : [110, 105, 108] = l := by rw [← hl]; rfl
    clear hl n0 n1 a0 a1 b0 b1 r0 r1
    go_enter Tryd.func28, Tryd.ntmps28
    go_wp2
    go_ret
    exact ⟨rfl, HB0.out⟩
  · by_cases h1 : kd = 1
    · subst h1
      obtain rfl : Lib.itoa n = l := by rw [← hl]; rfl
      have HF := Lib.hid (fun (W : World) (h : Sn W) => formatInt n n0 n1 W h.t)
      clear hl n0 n1 a0 a1 b0 b1 r0 r1
      go_enter Tryd.func28, Tryd.ntmps28
      go_wp2_with fail
      refine (HF.out _ HT0.out).mono ?_
      rintro e w1 ⟨rfl, hb1⟩
      have HB1 := Lib.hid (HB0.out.trans (hb1.mono HB0.out.size))
      clear hb1
      go_wp2
      go_ret
      exact ⟨rfl, HB1.out⟩
    · by_cases h2 : kd = 2
      · subst h2
        obtain rfl : 99 :: Tx.textB re.toNat im.toNat = l := by rw [← hl]; rfl
        obtain ⟨p, rfl⟩ := Int.eq_ofNat_of_zero_le a0
        obtain ⟨q, rfl⟩ := Int.eq_ofNat_of_zero_le b0
        have HX := Lib.hid (fun (W : World) (h : Sn W) => Rp.rtext_any p q (by omega) (by omega) W h.z)
        clear hl n0 n1 a0 a1 b0 b1 r0 r1
        go_enter Tryd.func28, Tryd.ntmps28
        go_wp2_with (go_at_call 19; refine (of19 _ _ _).mono ?_; rintro e wx ⟨rfl, rfl⟩)
        refine (HX.out _ HT0.out).mono ?_
        rintro e w1 ⟨rfl, hb1⟩
        have HB1 := Lib.hid (HB0.out.trans (hb1.mono HB0.out.size))
        have hcs := Vx.cons_str 99 (Tx.textB p q)
        have hln : 1 + (Tx.textB p q).length ≤ 9223372036854775807 := by rw [Tx.textB_length]; omega
        clear hb1
        go_wp2
        go_ret
        exact ⟨rfl, HB1.out⟩
      · by_cases h3 : kd = 3
        · subst h3
          obtain rfl : 35 :: Lib.itoa ref = l := by rw [← hl]; rfl
          have HLN : Hid (1 + (Lib.itoa ref).length ≤ 9223372036854775807) := Lib.hid (by have := Lib.itoa_length_le ref r0 r1; omega)
          have HF := Lib.hid (fun (W : World) (h : Sn W) => Vp.itoa ref r0 r1 W h.t)
          clear hl n0 n1 a0 a1 b0 b1 r0 r1
          go_enter Tryd.func28, Tryd.ntmps28
          go_wp2_with fail
          refine (HF.out _ HT0.out).mono ?_
          rintro e w1 ⟨rfl, hb1⟩
          have HB1 := Lib.hid (HB0.out.trans (hb1.mono HB0.out.size))
          have hcs := Vx.cons_str 35 (Lib.itoa ref)
          have hln : 1 + (Lib.itoa ref).length ≤ 9223372036854775807 := HLN.out
          clear hb1
          go_wp2
          go_ret
          exact ⟨rfl, HB1.out⟩
        · rw [if_neg h0, if_neg h1, if_neg h2, if_neg h3] at hl
          subst hl
          have k0 : (kd == 0) = false := by rw [beq_eq_false_iff_ne]; exact h0
          have k1 : (kd == 1) = false := by rw [beq_eq_false_iff_ne]; exact h1
          have k2 : (kd == 2) = false := by rw [beq_eq_false_iff_ne]; exact h2
          have k3 : (kd == 3) = false := by rw [beq_eq_false_iff_ne]; exact h3
          clear n0 n1 a0 a1 b0 b1 r0 r1
          go_enter Tryd.func28, Tryd.ntmps28
          go_wp2
          go_ret
          exact ⟨rfl, HB0.out⟩
end Go.Proofs.YtacfddlclbelmaaDoor.Vz
