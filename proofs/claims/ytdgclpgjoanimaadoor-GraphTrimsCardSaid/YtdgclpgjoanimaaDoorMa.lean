/- Graphs that may be: the program's tests, by their contracts. -/
import Derived.Test.YtdgclpgjoanimaaDoorBase
import Derived.StillTailTactics
import Derived.Deep.RegionLaw
import Derived.Lib.AppendZeros
namespace Go.Proofs.YtdgclpgjoanimaaDoor.Ma
open Go.RowKit Go.ChangeShapes Go.WideShapes Go.Proofs.YtdgclpgjoanimaaDoorW.PrintWords Go.Proofs.YtdgclpgjoanimaaDoor.Ba
set_option linter.unusedVariables false
def isB (n : Nat) (x : Int) : Bool := decide (0 ≤ x) && decide (x < (n : Int))
def rootB (n : Nat) (x : Int) : Bool := (x == -1) || isB n x
def fieldB (n : Nat) (v : V5) : Bool := decide (0 ≤ v.kd) && decide (v.kd ≤ 3) && (!(v.kd == 3) || isB n v.ref)
def mayG (g : G3) : Bool := decide (g.ns.length ≤ 4096) && (g.rs ++ g.ws).all (rootB g.ns.length) && g.ns.all (fun x => x.fs.all (fieldB g.ns.length))
def BoolPost (b : Bool) (w : World) (e : Ending) (w' : World) : Prop := e = .returned (.bool b) ∧ Below w.heap.size w w'
def IntPost (n : Int) (w : World) (e : Ending) (w' : World) : Prop := e = .returned (.int .i64 n) ∧ Below w.heap.size w w'
def gv (AN : Option Addr) (nN cN : Nat) (AR : Option Addr) (nR cR : Nat) (AW : Option Addr) (nW cW : Nat) : Value := .agg #[.slice AN nN cN, .slice AR nR cR, .slice AW nW cW]
theorem is_any (AN : Option Addr) (nN cN : Nat) (AR : Option Addr) (nR cR : Nat) (AW : Option Addr) (nW cW : Nat) (x : Int) (w : World) : Calls Tryd.prog 41 #[gv AN nN cN AR nR cR AW nW cW, .int .i64 x] w (BoolPost (isB nN x) w) := by
  unfold gv
  have HB := Lib.hid (((Below.refl w.heap.size w).alloc (Nat.le_refl _) (.cells #[.slice AN nN cN, .slice AR nR cR, .slice AW nW cW] 25)))
  by_cases h0 : 0 ≤ x
  · by_cases h1 : x < (nN : Int)
    · have e : isB nN x = true := by simp [isB, h0, h1]
      rw [e]
      go_enter Tryd.func41, Tryd.ntmps41
      go_wp2
      go_ret
      exact ⟨rfl, HB.out⟩
    · have e : isB nN x = false := by simp [isB, h1]
      rw [e]
      go_enter Tryd.func41, Tryd.ntmps41
      go_wp2
      go_ret
      exact ⟨rfl, HB.out⟩
  · have e : isB nN x = false := by simp [isB, h0]
    rw [e]
    go_enter Tryd.func41, Tryd.ntmps41
    go_wp2
    go_ret
    exact ⟨rfl, HB.out⟩
theorem root_any (AN : Option Addr) (nN cN : Nat) (AR : Option Addr) (nR cR : Nat) (AW : Option Addr) (nW cW : Nat) (x : Int) (w : World) : Calls Tryd.prog 18 #[gv AN nN cN AR nR cR AW nW cW, .int .i64 x] w (BoolPost (rootB nN x) w) := by
  unfold gv
  have HB := Lib.hid (((Below.refl w.heap.size w).alloc (Nat.le_refl _) (.cells #[.slice AN nN cN, .slice AR nR cR, .slice AW nW cW] 25)))
  cases e1 : (x == -1)
  · have e : rootB nN x = isB nN x := by simp only [rootB, e1, Bool.false_or]
    rw [e]
    go_enter Tryd.func18, Tryd.ntmps18
    go_wp2_with fail
    refine (is_any AN nN cN AR nR cR AW nW cW x _).mono ?_
    rintro e w1 ⟨rfl, hb⟩
    have hb1 := HB.out.trans (hb.mono (by rw [size_al]; omega))
    go_wp2
    go_ret
    exact ⟨rfl, hb1⟩
  · have e : rootB nN x = true := by simp only [rootB, e1, Bool.true_or]
    rw [e]
    go_enter Tryd.func18, Tryd.ntmps18
    go_wp2
    go_ret
    exact ⟨rfl, HB.out⟩
theorem field_any (AN : Option Addr) (nN cN : Nat) (AR : Option Addr) (nR cR : Nat) (AW : Option Addr) (nW cW : Nat) (x : V5) (w : World) : Calls Tryd.prog 21 #[gv AN nN cN AR nR cR AW nW cW, agg5 x] w (BoolPost (fieldB nN x) w) := by
  obtain ⟨f0, f1, f2, f3, f4⟩ := x
  unfold gv agg5
  dsimp only
  have HB := Lib.hid (((Below.refl w.heap.size w).alloc (Nat.le_refl _) (.cells #[.slice AN nN cN, .slice AR nR cR, .slice AW nW cW] 25)).alloc (by simp) (.cells #[.int .i64 f0, .int .i64 f1, .int .u64 f2, .int .u64 f3, .int .i64 f4] 36))
  by_cases h0 : 0 ≤ f0
  · by_cases h1 : f0 ≤ 3
    · by_cases h3 : f0 = 3
      rotate_left
      · have e1 : (f0 == 3) = false := by rw [beq_eq_false_iff_ne]; exact h3
        have e2 : (f0 != 3) = true := by simp [h3]
        have e : fieldB nN ⟨f0, f1, f2, f3, f4⟩ = true := by simp [fieldB, h0, h1, e1]
        rw [e]
        go_enter Tryd.func21, Tryd.ntmps21
        go_wp2
        go_ret
        exact ⟨rfl, HB.out⟩
      · subst h3
        have e : fieldB nN ⟨3, f1, f2, f3, f4⟩ = isB nN f4 := by simp [fieldB]
        rw [e]
        clear h0 h1
        go_enter Tryd.func21, Tryd.ntmps21
        go_wp2_with fail
        refine (is_any AN nN cN AR nR cR AW nW cW f4 _).mono ?_
        rintro e w1 ⟨rfl, hb⟩
        have hb1 := HB.out.trans (hb.mono (by rw [size_al, size_al]; omega))
        go_wp2
        go_ret
        exact ⟨rfl, hb1⟩
    · have e : fieldB nN ⟨f0, f1, f2, f3, f4⟩ = false := by simp [fieldB, h1]
      rw [e]
      go_enter Tryd.func21, Tryd.ntmps21
      go_wp2
      go_ret
      exact ⟨rfl, HB.out⟩
  · have e : fieldB nN ⟨f0, f1, f2, f3, f4⟩ = false := by simp [fieldB, h0]
    rw [e]
    go_enter Tryd.func21, Tryd.ntmps21
    go_wp2
    go_ret
    exact ⟨rfl, HB.out⟩
/-- The block in which a graph lies. -/
def Bx3 (w : World) (b : Nat) (AN : Option Addr) (nN cN : Nat) (AR : Option Addr) (nR cR : Nat) (AW : Option Addr) (nW cW : Nat) : Prop := w.heap[b]? = some (.cells #[.slice AN nN cN, .slice AR nR cR, .slice AW nW cW] 25 (0, 0))
theorem Bx3.cells {w : World} {b : Nat} {AN : Option Addr} {nN cN : Nat} {AR : Option Addr} {nR cR : Nat} {AW : Option Addr} {nW cW : Nat} (h : Bx3 w b AN nN cN AR nR cR AW nW cW) :
    w.cell? ⟨b, 0, none⟩ = some (.slice AN nN cN) ∧ w.cell? ⟨b, 1, none⟩ = some (.slice AR nR cR) ∧ w.cell? ⟨b, 2, none⟩ = some (.slice AW nW cW) := by
  refine ⟨?_, ?_, ?_⟩ <;> (rw [cell_of_row w b _ _ 25 (0, 0) h]; rfl)
theorem Bx3.below {w w' : World} {b : Nat} {AN : Option Addr} {nN cN : Nat} {AR : Option Addr} {nR cR : Nat} {AW : Option Addr} {nW cW : Nat} (h : Bx3 w b AN nN cN AR nR cR AW nW cW) (hb : Below w.heap.size w w') : Bx3 w' b AN nN cN AR nR cR AW nW cW :=
  (hb.block b (Array.getElem?_eq_some_iff.1 h).1).trans h
theorem may1_any (b : Nat) (AN : Option Addr) (nN cN : Nat) (AR : Option Addr) (nR cR : Nat) (AW : Option Addr) (nW cW : Nat) (x : V5) (w : World) (h : Bx3 w b AN nN cN AR nR cR AW nW cW) :
    Calls Tryd.prog 20 #[agg5 x, .pointer (some ⟨b, 0, none⟩)] w (BoolPost (!fieldB nN x) w) := by
  obtain ⟨c0, c1, c2⟩ := h.cells
  have hlt := (Array.getElem?_eq_some_iff.1 h).1
  obtain ⟨f0, f1, f2, f3, f4⟩ := x
  have HC := Lib.hid (field_any AN nN cN AR nR cR AW nW cW ⟨f0, f1, f2, f3, f4⟩)
  unfold gv at HC
  unfold agg5 at HC ⊢
  dsimp only at HC ⊢
  clear h
  have HB := Lib.hid ((Below.refl w.heap.size w).alloc (Nat.le_refl _) (.cells #[.int .i64 f0, .int .i64 f1, .int .u64 f2, .int .u64 f3, .int .i64 f4] 36))
  go_enter Tryd.func20, Tryd.ntmps20
  go_wp2_with fail
  refine (HC.out _).mono ?_
  rintro e w1 ⟨rfl, hb⟩
  have hb1 := HB.out.trans (hb.mono (by rw [size_al]; omega))
  go_wp2
  go_ret
  exact ⟨rfl, hb1⟩
theorem at5_of {w : World} {A : Option Addr} {l : List V5} (h : Fv w A l) (k : Nat) (hk : k < l.length) : ∃ ad, A = some ad ∧ At5 w (ad.add (k * 5)) (l.getD k z5) := h k hk
set_option maxHeartbeats 4000000 in
theorem index_any (b : Nat) (AN : Option Addr) (nN cN : Nat) (AR : Option Addr) (nR cR : Nat) (AW : Option Addr) (nW cW : Nat) (A : Option Addr) (c : Nat) (l : List V5) (w : World) (h : Bx3 w b AN nN cN AR nR cR AW nW cW) (hf : Fv w A l) (hl : l.length ≤ 1000000) :
    Calls Tryd.prog 42 #[.slice A l.length c, .func (.func 20) #[] #[.pointer (some ⟨b, 0, none⟩)]] w fun e w' => ∃ i : Int, e = .returned (.int .i64 i) ∧ decide (0 ≤ i) = (!l.all (fieldB nN)) ∧ Below w.heap.size w w' := by
  have H := Lib.hid hf
  have HX := Lib.hid h
  clear hf h
  go_enter Tryd.func42, Tryd.ntmps42
  go_wp2
  go_loopw [8] (fun i wr => ∃ k : Nat, k ≤ l.length ∧ i = .int .i64 (k : Int) ∧ (l.take k).all (fieldB nN) = true ∧ Below w.heap.size w wr) (fun i _ => l.length - (intOf i).toNat)
  case atStart => exact ⟨0, by omega, rfl, rfl, Below.refl _ _⟩
  case round =>
    obtain ⟨k, hk, rfl, hno, hb⟩ := hrel
    have HN := Lib.hid hno
    clear hno
    by_cases hlt : k < l.length
    · obtain ⟨ad, rfl, hc⟩ := (H.out.old hb.block) k hlt
      have HE : Hid ((l.take (k + 1)).all (fieldB nN) = fieldB nN (l.getD k z5)) := Lib.hid (by rw [take_snoc l z5 k hlt, List.all_append, HN.out, Bool.true_and, List.all_cons, List.all_nil, Bool.and_true])
      have HF : Hid (fieldB nN (l.getD k z5) = false → (l.all (fieldB nN)) = false) := Lib.hid (fun h => by
        rw [List.all_eq_false]
        exact ⟨_, mem_getD hlt, by rw [h]; decide⟩)
      obtain ⟨x, hx⟩ : ∃ x, l.getD k z5 = x := ⟨_, rfl⟩
      rw [hx] at hc HE HF
      clear hx
      obtain ⟨q0, q1, q2, q3, q4⟩ := hc
      have HM := Lib.hid (may1_any b AN nN cN AR nR cR AW nW cW x wr (HX.out.below hb))
      have HBB := Lib.hid hb
      obtain ⟨f0, f1, f2, f3, f4⟩ := x
      unfold agg5 at HM
      dsimp only at q0 q1 q2 q3 q4 HM
      go_wp2_with fail
      refine HM.out.mono ?_
      rintro e w1 ⟨rfl, hb1⟩
      have hb2 := HBB.out.trans (hb1.mono HBB.out.size)
      cases ev : fieldB nN ⟨f0, f1, f2, f3, f4⟩
      · have HF2 := Lib.hid (HF.out ev)
        clear HE HM HN
        go_wp2
        go_ret
        exact ⟨_, rfl, by rw [HF2.out]; simp, hb2⟩
      · have HE2 := Lib.hid (HE.out.trans ev)
        clear HE HM HN HF
        go_wp2
        go_roundw
        case rel => exact ⟨k + 1, by omega, by go_num, HE2.out, hb2⟩
        case measure => simp [intOf]; omega
    · obtain rfl : k = l.length := by omega
      have HN2 := Lib.hid HN.out
      rw [List.take_length] at HN2
      clear HN
      go_wp2
      go_ret
      exact ⟨_, rfl, by rw [HN2.out]; rfl, hb⟩
theorem containsf_any (b : Nat) (AN : Option Addr) (nN cN : Nat) (AR : Option Addr) (nR cR : Nat) (AW : Option Addr) (nW cW : Nat) (A : Option Addr) (c : Nat) (l : List V5) (w : World) (h : Bx3 w b AN nN cN AR nR cR AW nW cW) (hf : Fv w A l) (hl : l.length ≤ 1000000) :
    Calls Tryd.prog 19 #[.slice A l.length c, .func (.func 20) #[] #[.pointer (some ⟨b, 0, none⟩)]] w (BoolPost (!l.all (fieldB nN)) w) := by
  have H := Lib.hid (index_any b AN nN cN AR nR cR AW nW cW A c l w h hf hl)
  clear h hf
  go_enter Tryd.func19, Tryd.ntmps19
  go_wp2_with fail
  refine H.out.mono ?_
  rintro e w1 ⟨i, rfl, hd, hb⟩
  go_wp2
  go_ret
  exact ⟨rfl, hb⟩
/-- A row of ints that was made, and what is kept. -/
def Own (w : World) (l : List Int) (e : Ending) (w' : World) : Prop := ∃ v, e = .returned v ∧ w'.ownsRow w.heap.size 3 1 v l.length (l.map (Value.int .i64)) ∧ Below w.heap.size w w'
theorem own_nil (w : World) (base e : Nat) : w.ownsRow base e 1 (.slice none 0 0) 0 [] := ⟨rfl, .inl ⟨rfl, rfl⟩⟩
set_option maxHeartbeats 4000000 in
theorem grow_any (n : Nat) (w : World) (hn : n ≤ 100000) : Calls Tryd.prog 40 #[.slice none 0 0, .int .i64 (n : Int)] w (Own w []) := by
  obtain ⟨i0, hi0, hz0, hz1, hz2⟩ := info_parts info3
  by_cases h0 : 0 < n
  · have hr : ∀ ty, (Builtin.append_ #[23, 3] ty #[.slice none 0 0, .int .i64 (n : Int)]).run Tryd.prog w = _ := fun ty => Lib.run_append_nil_zeros w 23 3 ty 3 i0 (.int .i64 0) .i64 .i64 Tryd.underlying23 Tryd.underlying3 hi0 hz0 n h0 (by omega) (by omega) (by rw [hz2]; omega)
    have hge := grownCap_ge w n 0 3
    have hle := grownCap_le_maxLen w n 0 3 (by unfold maxLen; omega)
    have hsz : (Builtin.zeroCells (Value.int .i64 0).cells n ++ Builtin.zeroCells (Value.int .i64 0).cells (grownCap w n 0 3 - n)).size = grownCap w n 0 3 := by
      simp [Builtin.zeroCells, Value.cells]; omega
    obtain ⟨C, hC⟩ : ∃ C, Builtin.zeroCells (Value.int .i64 0).cells n ++ Builtin.zeroCells (Value.int .i64 0).cells (grownCap w n 0 3 - n) = C := ⟨_, rfl⟩
    rw [hC] at hr hsz
    obtain ⟨G, hG⟩ : ∃ G, grownCap w n 0 3 = G := ⟨_, rfl⟩
    rw [hG] at hr hge hle hsz
    have HO : Hid ((w.drew.alloc (.cells C 3)).ownsRow w.heap.size 3 1 (.slice (some ⟨w.heap.size, 0, none⟩) 0 G) 0 []) := Lib.hid ⟨rfl, .inr ⟨w.heap.size, G, C, rfl, Nat.le_refl _, heap_alloc_new w.drew _, Nat.zero_le _, hle, by omega, by simp⟩⟩
    have HB : Hid (Below w.heap.size w (w.drew.alloc (.cells C 3))) := Lib.hid ((Below.refl _ _).drew.alloc (Nat.le_refl _) _)
    have hG63 : (G : Int) ≤ 9223372036854775807 := by unfold maxLen at hle; omega
    have s1 : IntKind.i64.wrap ((n : Int) - 0) = (n : Int) := by rw [Go.IntWalk.i64_in _ (by omega)]; omega
    clear hC hG hsz
    go_enter Tryd.func40, Tryd.ntmps40
    go_wp2_with (at_builtin; refine Lib.wpList_append_run _ rfl _ _ _ _ rfl _ _ rfl rfl _ _ (hr _) ?_)
    go_ret
    exact ⟨_, rfl, HO.out, HB.out⟩
  · obtain rfl : n = 0 := by omega
    have s1 : IntKind.i64.wrap ((0 : Int) - 0) = 0 := by rw [Go.IntWalk.i64_in _ (by omega)]; omega
    go_enter Tryd.func40, Tryd.ntmps40
    go_wp2
    go_ret
    exact ⟨_, rfl, own_nil _ _ _, Below.refl _ _⟩
end Go.Proofs.YtdgclpgjoanimaaDoor.Ma
