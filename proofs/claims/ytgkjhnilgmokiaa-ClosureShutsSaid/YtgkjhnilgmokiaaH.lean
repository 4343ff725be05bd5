/- The table of handles: what New, Put, find, Get, Drop, Move, All and Len do, said of the table's block. -/
import Derived.Test.YtgkjhnilgmokiaaRows
import Derived.Test.YtgkjhnilgmokiaaScope
import Derived.WalkKit
import Derived.WalkSpells
import Derived.WalkLawsBesides
import Derived.WalkMore
import Derived.Lib.Hide
namespace Go.Proofs.Ytgkjhnilgmokiaa.Ha
open Go.RowKit

def cellAt (o : Nat → Int) (u : Nat → Bool) (a : Nat → Int) (k : Nat) : Value := if k % 3 = 0 then .int .i64 (o (k / 3)) else if k % 3 = 1 then .bool (u (k / 3)) else .int .i64 (a (k / 3))
def tab (o : Nat → Int) (u : Nat → Bool) (a : Nat → Int) : Array Value := ((List.range 192).map (cellAt o u a)).toArray
def Tab (w : World) (g : Nat) (o : Nat → Int) (u : Nat → Bool) (a : Nat → Int) : Prop := w.heap[g]? = some (.cells (tab o u a) 76 (0, 0))
def tab0 : Array Value := tab (fun _ => 0) (fun _ => false) (fun _ => 0)
theorem new_any (w : World) : Calls Try.prog 19 #[] w fun e w' => e = .returned (.pointer (some ⟨w.heap.size, 0, none⟩)) ∧ w' = w.alloc (.cells tab0 76) := by
  have hz : ∀ w, (zeroValue 76).run Try.prog w = .ok (.agg tab0) w := fun w => by kernel_rfl
  go_enter Try.func19, Try.ntmps19
  go_wp2
  go_ret
  exact ⟨rfl, rfl⟩
theorem Tab.cell {w : World} {g : Nat} {o : Nat → Int} {u : Nat → Bool} {a : Nat → Int} (h : Tab w g o u a) (k : Nat) (hk : k < 192) : w.cell? ⟨g, k, none⟩ = some (cellAt o u a k) := by
  have := cell_of_row w g k _ 76 (0, 0) h
  rw [this]
  simp [tab, hk]
theorem Tab.frozen {w : World} {g : Nat} {o : Nat → Int} {u : Nat → Bool} {a : Nat → Int} (h : Tab w g o u a) (k : Nat) : w.frozen? ⟨g, k, none⟩ = false := by
  unfold Tab at h
  simp [World.frozen?, h]
theorem Tab.obj {w : World} {g : Nat} {o : Nat → Int} {u : Nat → Bool} {a : Nat → Int} (h : Tab w g o u a) (i : Nat) (hi : i < 64) : w.cell? ⟨g, i * 3, none⟩ = some (.int .i64 (o i)) := by
  rw [h.cell _ (by omega)]
  unfold cellAt
  rw [if_pos (by omega), show i * 3 / 3 = i by omega]
theorem Tab.used {w : World} {g : Nat} {o : Nat → Int} {u : Nat → Bool} {a : Nat → Int} (h : Tab w g o u a) (i : Nat) (hi : i < 64) : w.cell? ⟨g, i * 3 + 1, none⟩ = some (.bool (u i)) := by
  rw [h.cell _ (by omega)]
  unfold cellAt
  rw [if_neg (by omega), if_pos (by omega), show (i * 3 + 1) / 3 = i by omega]
theorem Tab.age {w : World} {g : Nat} {o : Nat → Int} {u : Nat → Bool} {a : Nat → Int} (h : Tab w g o u a) (i : Nat) (hi : i < 64) : w.cell? ⟨g, i * 3 + 2, none⟩ = some (.int .i64 (a i)) := by
  rw [h.cell _ (by omega)]
  unfold cellAt
  rw [if_neg (by omega), if_neg (by omega), show (i * 3 + 2) / 3 = i by omega]
def J (g : Nat) (x : Int) (u : Nat → Bool) (w : World) (a' : Act) (w' : World) : Prop := w' = w ∧ ∃ i : Nat, i ≤ 64 ∧ (∀ j, j < i → u j = true) ∧ ∃ u7 u8 u9 u10 u11 u12 u13 u14 u15 u16 u17 u18 u19 u20 u21 u22 u23 u24 u25 u26 u27 u28 u29 u30 u31 u32 u33 u34 u35 u36 u37 u38 u39 u40 u41 u42 : Value,
  a' = ⟨#[.pointer (some ⟨g, 0, none⟩), .int .i64 x, undef, undef, .int .i64 0, .int .i64 0, .int .i64 (i : Int), u7, u8, u9, u10, u11, u12, u13, u14, u15, u16, u17, u18, u19, u20, u21, u22, u23, u24, u25, u26, u27, u28, u29, u30, u31, u32, u33, u34, u35, u36, u37, u38, u39, u40, u41, u42], []⟩
def mu (a : Act) (_ : World) : Nat := 64 - (intOf (a.tmps.getD 6 undef)).toNat
def upd {α : Type} (f : Nat → α) (i : Nat) (x : α) : Nat → α := fun k => if k = i then x else f k
theorem set_tab (o : Nat → Int) (u : Nat → Bool) (a : Nat → Int) (k : Nat) (v : Value) (o' : Nat → Int) (u' : Nat → Bool) (a' : Nat → Int)
    (h : ∀ j, j < 192 → cellAt o' u' a' j = if j = k then v else cellAt o u a j) : (tab o u a).setIfInBounds k v = tab o' u' a' := by
  unfold tab
  refine Array.ext (by simp) fun j h1 h2 => ?_
  have hj : j < 192 := by simpa using h2
  have h3 : j < (List.map (cellAt o u a) (List.range 192)).toArray.size := by simpa using hj
  rw [Array.getElem_setIfInBounds h3]
  simp only [List.getElem_toArray, List.getElem_map, List.getElem_range]
  rw [h j hj]
  by_cases hjk : k = j
  · subst hjk; simp
  · have : ¬ j = k := fun e => hjk e.symm
    rw [if_neg hjk, if_neg this]
theorem Tab.set {w : World} {g : Nat} {o : Nat → Int} {u : Nat → Bool} {a : Nat → Int} (h : Tab w g o u a) (k : Nat) (v : Value) (o' : Nat → Int) (u' : Nat → Bool) (a' : Nat → Int)
    (hh : ∀ j, j < 192 → cellAt o' u' a' j = if j = k then v else cellAt o u a j) : Tab (w.setCell ⟨g, k, none⟩ v) g o' u' a' := by
  unfold Tab at *
  simp only [World.setCell, Array.getElem?_modify, h, if_pos, Option.map_some]
  rw [← set_tab o u a k v o' u' a' hh]
  rfl
theorem Tab.setObj {w : World} {g : Nat} {o : Nat → Int} {u : Nat → Bool} {a : Nat → Int} (h : Tab w g o u a) (i : Nat) (x : Int) : Tab (w.setCell ⟨g, i * 3, none⟩ (.int .i64 x)) g (upd o i x) u a := by
  refine h.set _ _ _ _ _ fun j _ => ?_
  unfold cellAt upd
  by_cases h0 : j = i * 3
  · subst h0; rw [if_pos rfl, if_pos (by omega), if_pos (by omega)]
  · rw [if_neg h0]
    by_cases h1 : j % 3 = 0
    · rw [if_pos h1, if_pos h1, if_neg (by omega)]
    · rw [if_neg h1, if_neg h1]
theorem Tab.setUsed {w : World} {g : Nat} {o : Nat → Int} {u : Nat → Bool} {a : Nat → Int} (h : Tab w g o u a) (i : Nat) (x : Bool) : Tab (w.setCell ⟨g, i * 3 + 1, none⟩ (.bool x)) g o (upd u i x) a := by
  refine h.set _ _ _ _ _ fun j _ => ?_
  unfold cellAt upd
  by_cases h0 : j = i * 3 + 1
  · subst h0; rw [if_pos rfl, if_neg (by omega), if_pos (by omega), if_pos (by omega)]
  · rw [if_neg h0]
    by_cases h1 : j % 3 = 0
    · rw [if_pos h1, if_pos h1]
    · rw [if_neg h1, if_neg h1]
      by_cases h2 : j % 3 = 1
      · rw [if_pos h2, if_pos h2, if_neg (by omega)]
      · rw [if_neg h2, if_neg h2]
theorem Tab.setAge {w : World} {g : Nat} {o : Nat → Int} {u : Nat → Bool} {a : Nat → Int} (h : Tab w g o u a) (i : Nat) (x : Int) : Tab (w.setCell ⟨g, i * 3 + 2, none⟩ (.int .i64 x)) g o u (upd a i x) := by
  refine h.set _ _ _ _ _ fun j _ => ?_
  unfold cellAt upd
  by_cases h0 : j = i * 3 + 2
  · subst h0; rw [if_pos rfl, if_neg (by omega), if_neg (by omega), if_pos (by omega)]
  · rw [if_neg h0]
    by_cases h1 : j % 3 = 0
    · rw [if_pos h1, if_pos h1]
    · rw [if_neg h1, if_neg h1]
      by_cases h2 : j % 3 = 1
      · rw [if_pos h2, if_pos h2]
      · rw [if_neg h2, if_neg h2, if_neg (by omega)]

theorem grown_set (w : World) (g k : Nat) (v : Value) : w.grownBy (w.setCell ⟨g, k, none⟩ v) (some g) :=
  ⟨rfl, rfl, rfl, by simp [World.setCell], fun j _ hne => Below.heap_setCell w _ v j (fun e => hne (by rw [e]))⟩
theorem grown_drew (w : World) (r : Option Nat) : w.grownBy w.drew r := ⟨rfl, rfl, rfl, Nat.le_refl _, fun _ _ _ => rfl⟩
theorem grown_drewN (w : World) (n : Nat) (r : Option Nat) : w.grownBy (w.drewN n) r := ⟨rfl, rfl, rfl, Nat.le_refl _, fun _ _ _ => rfl⟩
theorem grown_refl (w : World) (r : Option Nat) : w.grownBy w r := ⟨rfl, rfl, rfl, Nat.le_refl _, fun _ _ _ => rfl⟩
theorem grown_trans {a b c : World} {r : Option Nat} (h : a.grownBy b r) (k : b.grownBy c r) : a.grownBy c r :=
  ⟨k.os.trans h.os, k.tape.trans h.tape, k.output.trans h.output, Nat.le_trans h.size k.size, fun i hi hne => (k.block i (Nat.lt_of_lt_of_le hi h.size) hne).trans (h.block i hi hne)⟩

theorem put_full (g : Nat) (o : Nat → Int) (u : Nat → Bool) (a : Nat → Int) (x : Int) (w : World) (h : Tab w g o u a) (hf : ∀ i, i < 64 → u i = true) :
    Calls Try.prog 20 #[.pointer (some ⟨g, 0, none⟩), .int .i64 x] w fun e w' => e = .returned (.tuple #[.int .i64 0, .int .i64 9]) ∧ w = w' := by
  go_enter Try.func20, Try.ntmps20
  go_wp2
  refine Sc.wp_scope_here 0 (J g x u w) mu rfl ?_ ?_
  · rintro a' w' ⟨rfl, i, hi, hu, u7, u8, u9, u10, u11, u12, u13, u14, u15, u16, u17, u18, u19, u20, u21, u22, u23, u24, u25, u26, u27, u28, u29, u30, u31, u32, u33, u34, u35, u36, u37, u38, u39, u40, u41, u42, rfl⟩
    by_cases h64 : i = 64
    · subst h64
      go_wp2
      simp only [Exit.jump]
      go_ret2
      exact ⟨rfl, rfl⟩
    · have hlt : i < 64 := by omega
      have hc1 := h.used i hlt
      rw [hf i hlt] at hc1
      have hu1 : ((i : Int) == 64) = false := by rw [beq_eq_false_iff_ne]; omega
      go_wp2
      go_step3
      simp only [Exit.then]
      refine ⟨rfl, ⟨rfl, i + 1, by omega, fun j _ => hf j (by omega), _, _, _, _, _, _, _, _, _, _, _, _, _, _, _, _, _, _, _, _, _, _, _, _, _, _, _, _, _, _, _, _, _, _, _, _, rfl⟩, ?_⟩
      simp [mu, intOf]; omega
  · intro hp
    go_wp2
    go_step3
    rename_i K hK
    refine hK _ _ (hp _ _ ⟨rfl, 0, by omega, by omega, ?_⟩)
    exact ⟨_, _, _, _, _, _, _, _, _, _, _, _, _, _, _, _, _, _, _, _, _, _, _, _, _, _, _, _, _, _, _, _, _, _, _, _, rfl⟩

theorem put_free (g : Nat) (o : Nat → Int) (u : Nat → Bool) (a : Nat → Int) (x : Int) (w : World) (h : Tab w g o u a) (m : Nat) (hm : m < 64) (hum : u m = false) (hl : ∀ j, j < m → u j = true)
    (ha0 : 0 ≤ a m) (ha1 : a m ≤ 1000000) :
    Calls Try.prog 20 #[.pointer (some ⟨g, 0, none⟩), .int .i64 x] w fun e w' => e = .returned (.tuple #[.int .i64 ((m : Int) + 64 * a m), .int .i64 0]) ∧ Tab w' g (upd o m x) (upd u m true) a ∧ w.grownBy w' (some g) := by
  go_enter Try.func20, Try.ntmps20
  go_wp2
  refine Sc.wp_scope_here 0 (J g x u w) mu rfl ?_ ?_
  · rintro a' w' ⟨rfl, i, hi, hu, u7, u8, u9, u10, u11, u12, u13, u14, u15, u16, u17, u18, u19, u20, u21, u22, u23, u24, u25, u26, u27, u28, u29, u30, u31, u32, u33, u34, u35, u36, u37, u38, u39, u40, u41, u42, rfl⟩
    have him : i ≤ m := by
      rcases Nat.lt_or_ge m i with h1 | h1
      · rw [hu m h1] at hum; cases hum
      · exact h1
    have hlt : i < 64 := by omega
    have hc1 := h.used i hlt
    have hu1 : ((i : Int) == 64) = false := by rw [beq_eq_false_iff_ne]; omega
    by_cases hlm : i = m
    · subst hlm
      rw [hum] at hc1
      have hc0 := h.obj i hlt
      have hc2 := h.age i hlt
      have hf0 := h.frozen (i * 3)
      have hf1 := h.frozen (i * 3 + 1)
      have HT := Lib.hid h
      clear h hl hu
      go_wp2
      go_region
      simp only [Exit.then]
      rename_i K hK
      apply hK
      go_wp2
      simp only [Exit.jump]
      go_ret2
      exact ⟨rfl, (HT.out.setObj i x).setUsed i true, grown_trans (grown_set _ _ _ _) (grown_trans (grown_set _ _ _ _) (grown_drew _ _))⟩
    · rw [hl i (by omega)] at hc1
      go_wp2
      go_step3
      simp only [Exit.then]
      refine ⟨rfl, ⟨rfl, i + 1, by omega, fun j hj => ?_, _, _, _, _, _, _, _, _, _, _, _, _, _, _, _, _, _, _, _, _, _, _, _, _, _, _, _, _, _, _, _, _, _, _, _, _, rfl⟩, ?_⟩
      · exact hl j (by omega)
      · simp [mu, intOf]; omega
  · intro hp
    go_wp2
    go_step3
    rename_i K hK
    refine hK _ _ (hp _ _ ⟨rfl, 0, by omega, by omega, ?_⟩)
    exact ⟨_, _, _, _, _, _, _, _, _, _, _, _, _, _, _, _, _, _, _, _, _, _, _, _, _, _, _, _, _, _, _, _, _, _, _, _, rfl⟩

/-- The handle h is of slot m, and so old. -/
def IsSlot (h : Int) (m : Nat) (q : Int) : Prop := 0 ≤ h ∧ m < 64 ∧ h % 64 = (m : Int) ∧ wrap64 (h.tdiv 64) = q
theorem IsSlot.of (h : Int) (h0 : 0 ≤ h) (h1 : h ≤ 9223372036854775807) : IsSlot h (h % 64).toNat (h / 64) := by
  refine ⟨h0, by omega, by omega, ?_⟩
  rw [Int.tdiv_eq_ediv_of_nonneg h0]
  unfold wrap64
  omega
set_option maxHeartbeats 400000 in
theorem find_yes (g : Nat) (o : Nat → Int) (u : Nat → Bool) (a : Nat → Int) (h : Int) (m : Nat) (w : World) (hT : Tab w g o u a) (hs : IsSlot h m (a m)) (hu : u m = true) :
    Calls Try.prog 39 #[.pointer (some ⟨g, 0, none⟩), .int .i64 h] w fun e w' => e = .returned (.pointer (some ⟨g, m * 3, none⟩)) ∧ w = w' := by
  obtain ⟨h0, hm, h1, h2⟩ := hs
  have hc1 := hT.used m hm
  have hc2 := hT.age m hm
  rw [hu] at hc1
  have hne : (wrap64 (h.tdiv 64) != a m) = false := by rw [bne_eq_false_iff_eq]; exact h2
  clear h2
  go_enter Try.func39, Try.ntmps39
  go_wp2
  go_ret
  exact ⟨rfl, rfl⟩
set_option maxHeartbeats 400000 in
theorem find_no (g : Nat) (o : Nat → Int) (u : Nat → Bool) (a : Nat → Int) (h : Int) (w : World) (hT : Tab w g o u a) (hs : h < 0 ∨ ∃ m q, IsSlot h m q ∧ (u m = false ∨ q ≠ a m)) :
    Calls Try.prog 39 #[.pointer (some ⟨g, 0, none⟩), .int .i64 h] w fun e w' => e = .returned (.pointer none) ∧ w = w' := by
  rcases hs with hs | ⟨m, q, ⟨h0, hm, h1, h2⟩, hs⟩
  · go_enter Try.func39, Try.ntmps39
    go_wp2
    go_ret
    exact ⟨rfl, rfl⟩
  · have hc1 := hT.used m hm
    have hc2 := hT.age m hm
    cases hu : u m with
    | false =>
      rw [hu] at hc1
      clear h2 hs
      go_enter Try.func39, Try.ntmps39
      go_wp2
      go_ret
      exact ⟨rfl, rfl⟩
    | true =>
      rw [hu] at hc1
      have hne : (wrap64 (h.tdiv 64) != a m) = true := by
        rw [bne_iff_ne]
        rcases hs with hs | hs
        · rw [hu] at hs; cases hs
        · rw [h2]; exact hs
      clear h2 hs
      go_enter Try.func39, Try.ntmps39
      go_wp2
      go_ret
      exact ⟨rfl, rfl⟩
set_option maxHeartbeats 400000 in
theorem get_yes (g : Nat) (o : Nat → Int) (u : Nat → Bool) (a : Nat → Int) (h : Int) (m : Nat) (w : World) (hT : Tab w g o u a) (hs : IsSlot h m (a m)) (hu : u m = true) :
    Calls Try.prog 21 #[.pointer (some ⟨g, 0, none⟩), .int .i64 h] w fun e w' => e = .returned (.tuple #[.int .i64 (o m), .int .i64 0]) ∧ w = w' := by
  have hc := hT.obj m hs.2.1
  have HS := Lib.hid hs
  have HT := Lib.hid hT
  clear hs hT
  go_enter Try.func21, Try.ntmps21
  go_wp2_with (go_at_call 39; refine (find_yes g o u a h m _ HT.out HS.out hu).mono ?_; rintro e w' ⟨rfl, rfl⟩)
  go_ret2
  exact ⟨rfl, rfl⟩
set_option maxHeartbeats 400000 in
theorem get_no (g : Nat) (o : Nat → Int) (u : Nat → Bool) (a : Nat → Int) (h : Int) (w : World) (hT : Tab w g o u a) (hs : h < 0 ∨ ∃ m q, IsSlot h m q ∧ (u m = false ∨ q ≠ a m)) :
    Calls Try.prog 21 #[.pointer (some ⟨g, 0, none⟩), .int .i64 h] w fun e w' => e = .returned (.tuple #[.int .i64 0, .int .i64 2]) ∧ w = w' := by
  have HS := Lib.hid hs
  have HT := Lib.hid hT
  clear hs hT
  go_enter Try.func21, Try.ntmps21
  go_wp2_with (go_at_call 39; refine (find_no g o u a h _ HT.out HS.out).mono ?_; rintro e w' ⟨rfl, rfl⟩)
  go_ret2
  exact ⟨rfl, rfl⟩
set_option maxHeartbeats 400000 in
theorem drop_yes (g : Nat) (o : Nat → Int) (u : Nat → Bool) (a : Nat → Int) (h : Int) (m : Nat) (w : World) (hT : Tab w g o u a) (hs : IsSlot h m (a m)) (hu : u m = true) (ha0 : 0 ≤ a m) (ha1 : a m ≤ 1000000) :
    Calls Try.prog 22 #[.pointer (some ⟨g, 0, none⟩), .int .i64 h] w fun e w' => e = .returned (.int .i64 0) ∧ Tab w' g (upd o m 0) (upd u m false) (upd a m (a m + 1)) ∧ w.grownBy w' (some g) := by
  have hm := hs.2.1
  have hc0 := hT.obj m hm
  have hc1 := hT.used m hm
  have hc2 := hT.age m hm
  have hf0 := hT.frozen (m * 3)
  have hf1 := hT.frozen (m * 3 + 1)
  have hf2 := hT.frozen (m * 3 + 2)
  have HS := Lib.hid hs
  have HT := Lib.hid hT
  have HU := Lib.hid hu
  clear hs hT hu
  go_enter Try.func22, Try.ntmps22
  go_wp2_with (go_at_call 39; refine (find_yes g o u a h m _ HT.out HS.out HU.out).mono ?_; rintro e w' ⟨rfl, rfl⟩)
  go_ret
  exact ⟨rfl, ((HT.out.setObj m 0).setUsed m false).setAge m _, grown_trans (grown_set _ _ _ _) (grown_trans (grown_set _ _ _ _) (grown_set _ _ _ _))⟩
set_option maxHeartbeats 400000 in
theorem drop_no (g : Nat) (o : Nat → Int) (u : Nat → Bool) (a : Nat → Int) (h : Int) (w : World) (hT : Tab w g o u a) (hs : h < 0 ∨ ∃ m q, IsSlot h m q ∧ (u m = false ∨ q ≠ a m)) :
    Calls Try.prog 22 #[.pointer (some ⟨g, 0, none⟩), .int .i64 h] w fun e w' => e = .returned (.int .i64 2) ∧ w = w' := by
  have HS := Lib.hid hs
  have HT := Lib.hid hT
  clear hs hT
  go_enter Try.func22, Try.ntmps22
  go_wp2_with (go_at_call 39; refine (find_no g o u a h _ HT.out HS.out).mono ?_; rintro e w' ⟨rfl, rfl⟩)
  go_ret
  exact ⟨rfl, rfl⟩

/-- Behind Move: what slots stand for, and how many turned, k slots looked at. -/
def movO (o : Nat → Int) (u : Nat → Bool) (x y : Int) (k : Nat) : Nat → Int := fun i => if i < k ∧ u i = true ∧ o i = x then y else o i
def movN (o : Nat → Int) (u : Nat → Bool) (x : Int) (k : Nat) : Nat := ((List.range k).filter fun i => u i && decide (o i = x)).length
theorem movN_le (o : Nat → Int) (u : Nat → Bool) (x : Int) (k : Nat) : movN o u x k ≤ k := by
  have := List.length_filter_le (fun i => u i && decide (o i = x)) (List.range k)
  simpa [movN] using this
theorem movN_yes {o : Nat → Int} {u : Nat → Bool} {x : Int} {k : Nat} (h1 : u k = true) (h2 : o k = x) : movN o u x (k + 1) = movN o u x k + 1 := by
  simp [movN, List.range_succ, h1, h2]
theorem movN_no {o : Nat → Int} {u : Nat → Bool} {x : Int} {k : Nat} (h : u k = false ∨ o k ≠ x) : movN o u x (k + 1) = movN o u x k := by
  rcases h with h | h <;> simp [movN, List.range_succ, h]
theorem movO_yes {o : Nat → Int} {u : Nat → Bool} {x y : Int} {k : Nat} (h1 : u k = true) (h2 : o k = x) : upd (movO o u x y k) k y = movO o u x y (k + 1) := by
  funext i
  unfold upd movO
  by_cases h : i = k
  · subst h; rw [if_pos rfl, if_pos ⟨by omega, h1, h2⟩]
  · rw [if_neg h]
    by_cases h3 : i < k ∧ u i = true ∧ o i = x
    · rw [if_pos h3, if_pos ⟨by omega, h3.2⟩]
    · rw [if_neg h3, if_neg (fun e => h3 ⟨by omega, e.2⟩)]
theorem movO_no {o : Nat → Int} {u : Nat → Bool} {x y : Int} {k : Nat} (h : u k = false ∨ o k ≠ x) : movO o u x y k = movO o u x y (k + 1) := by
  funext i
  unfold movO
  by_cases h3 : i < k ∧ u i = true ∧ o i = x
  · rw [if_pos h3, if_pos ⟨by omega, h3.2⟩]
  · rw [if_neg h3, if_neg]
    rintro ⟨e1, e2, e3⟩
    by_cases h4 : i = k
    · subst h4
      rcases h with h | h
      · rw [h] at e2; cases e2
      · exact h e3
    · exact h3 ⟨by omega, e2, e3⟩
theorem movO_at {o : Nat → Int} {u : Nat → Bool} {x y : Int} {k : Nat} : movO o u x y k k = o k := by
  unfold movO; rw [if_neg (by omega)]
set_option maxHeartbeats 1000000 in
theorem move_any (g : Nat) (o : Nat → Int) (u : Nat → Bool) (a : Nat → Int) (x y : Int) (w : World) (hT : Tab w g o u a) :
    Calls Try.prog 26 #[.pointer (some ⟨g, 0, none⟩), .int .i64 x, .int .i64 y] w fun e w' => e = .returned (.int .i64 (movN o u x 64 : Int)) ∧ Tab w' g (movO o u x y 64) u a ∧ w.grownBy w' (some g) := by
  go_enter Try.func26, Try.ntmps26
  go_wp2
  go_loopw [7, 12] (fun n i wr => ∃ k : Nat, k ≤ 64 ∧ i = .int .i64 (k : Int) ∧ n = .int .i64 (movN o u x k : Int) ∧ Tab wr g (movO o u x y k) u a ∧ w.grownBy wr (some g)) (fun _ i _ => 64 - (intOf i).toNat)
  case atStart => exact ⟨0, by omega, rfl, rfl, by rw [show movO o u x y 0 = o from funext fun i => if_neg (by omega)]; exact hT, grown_refl _ _⟩
  case round =>
    obtain ⟨k, hk, rfl, rfl, ht, hg⟩ := hrel
    have hle := movN_le o u x k
    by_cases hlt : k < 64
    · have hc0 := ht.obj k hlt
      have hc1 := ht.used k hlt
      have hf0 := ht.frozen (k * 3)
      rw [movO_at] at hc0
      cases hu : u k with
      | false =>
        rw [hu] at hc1
        have e1 := movN_no (o := o) (x := x) (.inl hu)
        have HT := Lib.hid ht
        have HU := Lib.hid hu
        have E1 := Lib.hid e1
        clear ht hu e1
        go_wp2
        go_roundw
        case rel => exact ⟨k + 1, by omega, by go_num, by rw [E1.out], by rw [← movO_no (.inl HU.out)]; exact HT.out, hg⟩
        case measure => simp [intOf]; omega
      | true =>
        rw [hu] at hc1
        by_cases hx : o k = x
        · have e1 := movN_yes hu hx
          have e2 := movO_yes (y := y) hu hx
          rw [hx] at hc0
          have HT := Lib.hid ht
          have E1 := Lib.hid e1
          have E2 := Lib.hid e2
          clear ht hu e1 e2 hx
          go_wp2
          go_roundw
          case rel => exact ⟨k + 1, by omega, by go_num, by rw [E1.out]; go_num, by rw [← E2.out]; exact HT.out.setObj k y, grown_trans hg (grown_set _ _ _ _)⟩
          case measure => simp [intOf]; omega
        · have e1 := movN_no (o := o) (u := u) (x := x) (.inr hx)
          have e2 := movO_no (u := u) (y := y) (.inr hx)
          have hne : (o k == x) = false := by rw [beq_eq_false_iff_ne]; exact hx
          have HT := Lib.hid ht
          have E1 := Lib.hid e1
          have E2 := Lib.hid e2
          clear ht hu e1 e2 hx
          go_wp2
          go_roundw
          case rel => exact ⟨k + 1, by omega, by go_num, by rw [E1.out], by rw [← E2.out]; exact HT.out, hg⟩
          case measure => simp [intOf]; omega
    · obtain rfl : k = 64 := by omega
      go_wp2
      go_ret
      exact ⟨rfl, ht, hg⟩

theorem cell_two (w : World) (A : Obj) (v : Value) (t : TypeId) : ∀ (j : Nat) (u : Value), [v][j]? = some u → ((w.alloc A).alloc (.cells #[v] t)).cell? ((⟨w.heap.size + 1, 0, none⟩ : Addr).add j) = some u := by
  have := cell_one_new (w.alloc A) v t
  simpa using this
theorem tab_size (o : Nat → Int) (u : Nat → Bool) (a : Nat → Int) : (tab o u a).size = 192 := by simp [tab]
theorem info3 : (Try.prog.info? 3).map (fun i => (i.zero, i.size, i.bytes)) = some (some (.int .i64 0), 1, 8) := by kernel_rfl
theorem size74 : (Try.prog.info? 74).map (·.size) = some 192 := by kernel_rfl
theorem index_tab (o : Nat → Int) (u : Nat → Bool) (a : Nat → Int) (k : Nat) (hk : k < 64) (w : World) :
    (Instr.index 74 (.agg (tab o u a)) (.int .i64 (k : Int))).run Try.prog w = .ok (.agg #[.int .i64 (o k), .bool (u k), .int .i64 (a k)]) w := by
  have hx : (tab o u a).extract (k * 3) (k * 3 + 3) = #[.int .i64 (o k), .bool (u k), .int .i64 (a k)] := by
    refine Array.ext (by simp [tab_size]; omega) fun j h1 h2 => ?_
    have hj : j < 3 := by simpa using h2
    have e : ∀ h, ((tab o u a).extract (k * 3) (k * 3 + 3))[j]'h = cellAt o u a (k * 3 + j) := by
      intro h
      rw [Array.getElem_extract]
      simp [tab]
    rw [e]
    have : j = 0 ∨ j = 1 ∨ j = 2 := by omega
    rcases this with rfl | rfl | rfl
    · unfold cellAt; rw [if_pos (by omega), show (k * 3 + 0) / 3 = k by omega]; rfl
    · unfold cellAt; rw [if_neg (by omega), if_pos (by omega), show (k * 3 + 1) / 3 = k by omega]; rfl
    · unfold cellAt; rw [if_neg (by omega), if_neg (by omega), show (k * 3 + 2) / 3 = k by omega]; rfl
  have hb : (0 : Int) ≤ (k : Int) ∧ (k : Int) < ((64 : Nat) : Int) := by omega
  simp [Instr.index, asIntOf, run_underlying Try.underlying74, part, hx]
  omega
def allL (o : Nat → Int) (u : Nat → Bool) (k : Nat) : List Int := ((List.range k).filter u).map o
theorem allL_yes {o : Nat → Int} {u : Nat → Bool} {k : Nat} (h : u k = true) : allL o u (k + 1) = allL o u k ++ [o k] := by simp [allL, List.range_succ, h]
theorem allL_no {o : Nat → Int} {u : Nat → Bool} {k : Nat} (h : u k = false) : allL o u (k + 1) = allL o u k := by simp [allL, List.range_succ, h]
theorem allL_le (o : Nat → Int) (u : Nat → Bool) (k : Nat) : (allL o u k).length ≤ k := by
  have := List.length_filter_le u (List.range k)
  simpa [allL] using this
set_option maxHeartbeats 1000000 in
theorem all_any (g : Nat) (o : Nat → Int) (u : Nat → Bool) (a : Nat → Int) (w : World) (hT : Tab w g o u a) :
    Calls Try.prog 33 #[.pointer (some ⟨g, 0, none⟩)] w fun e w' => ∃ v, e = .returned v ∧ w'.ownsRow w.heap.size 3 1 v (allL o u 64).length ((allL o u 64).map (Value.int .i64)) ∧ Below w.heap.size w w' := by
  obtain ⟨i0, hi0, hz0, hz1, hz2⟩ := info_parts info3
  have hsz : (Try.prog.info? 74).map (·.size) = some (tab o u a).size := by rw [tab_size]; exact size74
  have HT := Lib.hid hT
  have HS := Lib.hid hsz
  clear hT hsz
  go_enter Try.func33, Try.ntmps33
  go_wp2_with (refine wpList_load_row rfl 74 (.tmp 10) rfl g rfl 76 (tab o u a) (0, 0) _ HT.out Try.underlying74 rfl HS.out ?_)
  go_loopw [3, 12] (fun s i wr => ∃ k : Nat, k ≤ 64 ∧ i = .int .i64 (k : Int) ∧ wr.ownsRow w.heap.size 3 1 s (allL o u k).length ((allL o u k).map (Value.int .i64)) ∧ Below w.heap.size w wr) (fun _ i _ => 64 - (intOf i).toNat)
  case atStart => exact ⟨0, by omega, rfl, World.ownsRow_nil _ _ _ _, Below.refl _ _⟩
  case round =>
    obtain ⟨k, hk, rfl, ho, hb⟩ := hrel
    by_cases hlt : k < 64
    · have hidx := index_tab o u a k hlt
      cases hu : u k with
      | false =>
        rw [hu] at hidx
        have e1 := allL_no (o := o) hu
        have E1 := Lib.hid e1
        clear e1 hu
        go_wp2
        go_roundw
        case rel => exact ⟨k + 1, by omega, by go_num, by rw [E1.out]; exact ho.alloc _, hb.alloc hb.size _⟩
        case measure => simp [intOf]; omega
      | true =>
        rw [hu] at hidx
        have e1 := allL_yes (o := o) hu
        have hl := allL_le o u k
        have E1 := Lib.hid e1
        clear e1 hu
        go_wp2_with (at_builtin; refine wpList_append_own _ rfl (.tmp 17) (.tmp 20) _ rfl w.heap.size 3 i0 (.int .i64 0) 1 8 Try.underlying27 hi0 hz0 hz1 hz2 rfl (by decide) _ _ _ rfl ((ho.alloc _).alloc _) ⟨wr.heap.size + 1, 0, none⟩ 1 1 [.int .i64 (o k)] rfl rfl ?c1 ?c2 ?c3 ?c4 ?c5 ?_)
        case c1 => exact cell_two _ _ _ _
        case c2 => intro v hv; simp only [List.mem_singleton] at hv; subst hv; rfl
        case c3 => simp only [maxLen]; omega
        case c4 => omega
        case c5 => simp; exact Nat.le_trans hb.size (by omega)
        intro v' w1 ho1 hg1 _
        have hb1 : Below w.heap.size w w1 := ((hb.alloc hb.size _).alloc (by simp; exact Nat.le_succ_of_le hb.size) _).grown hg1 (by simp; exact Nat.le_trans hb.size (by omega)) (fun j hj => (ho.lt j hj).1)
        have ho2 : w1.ownsRow w.heap.size 3 1 v' (allL o u (k + 1)).length ((allL o u (k + 1)).map (Value.int .i64)) := by
          rw [E1.out, List.map_append, List.length_append]; exact ho1
        clear hg1 ho1 hidx
        go_wp2
        go_roundw
        case rel => exact ⟨k + 1, by omega, by go_num, ho2, hb1⟩
        case measure => simp [intOf]; omega
    · obtain rfl : k = 64 := by omega
      go_wp2
      go_ret
      exact ⟨_, rfl, ho, hb⟩

theorem len_any (g : Nat) (o : Nat → Int) (u : Nat → Bool) (a : Nat → Int) (w : World) (hT : Tab w g o u a) :
    Calls Try.prog 25 #[.pointer (some ⟨g, 0, none⟩)] w fun e w' => e = .returned (.int .i64 ((allL o u 64).length : Int)) ∧ Below w.heap.size w w' := by
  have HT := Lib.hid hT
  clear hT
  go_enter Try.func25, Try.ntmps25
  go_wp2_with fail
  refine (all_any g o u a _ HT.out).mono ?_
  rintro e w1 ⟨v, rfl, ho, hb⟩
  have hv : ∃ A c, v = .slice A (allL o u 64).length c := by
    rcases ho.2 with ⟨h1, h2⟩ | ⟨g', cap, cur, h1, _⟩
    · exact ⟨none, 0, by rw [h1, h2]⟩
    · exact ⟨_, _, h1⟩
  obtain ⟨A, c, rfl⟩ := hv
  go_wp2
  go_ret
  exact ⟨rfl, hb⟩
/-- awake: the handles that every program must know. -/
theorem awake_any (w : World) : Calls Try.prog 23 #[] w fun e w' => e = .returned (.bool true) ∧ Below w.heap.size w w' := by
  go_enter Try.func23, Try.ntmps23
  go_wp2_with fail
  refine (new_any _).mono ?_
  rintro e w' ⟨rfl, rfl⟩
  have h0 : Tab (w.alloc (.cells tab0 76)) w.heap.size (fun _ => 0) (fun _ => false) (fun _ => 0) := heap_alloc_new w _
  have hb0 : Below w.heap.size w (w.alloc (.cells tab0 76)) := (Below.refl _ _).alloc (Nat.le_refl _) _
  have HT := Lib.hid h0
  clear h0
  go_wp2_with fail
  refine (put_free _ _ _ _ 7 _ HT.out 0 (by omega) rfl (fun j hj => by omega) (by omega) (by omega)).mono ?_
  rintro e w1 ⟨rfl, h1, g1⟩
  have own : ∀ (k : Nat), some w.heap.size = some k → w.heap.size ≤ k := fun k hk => by injection hk with hk; omega
  have b1 := hb0.grown g1 hb0.size own
  go_wp2_with fail
  refine (drop_yes _ _ _ _ 0 0 _ h1 ⟨by omega, by omega, rfl, by decide +kernel⟩ rfl (by decide) (by decide)).mono ?_
  rintro e w2 ⟨rfl, h2, g2⟩
  have b2 := b1.grown g2 b1.size own
  go_wp2_with fail
  refine (put_free _ _ _ _ 8 _ h2 0 (by omega) rfl (fun j hj => by omega) (by decide) (by decide)).mono ?_
  rintro e w3 ⟨he, h3, g3⟩
  have he' : e = .returned (.tuple #[.int .i64 64, .int .i64 0]) := he
  subst he'
  have b3 := b2.grown g3 b2.size own
  clear he
  go_wp2_with fail
  refine (get_no _ _ _ _ 0 _ h3 (.inr ⟨0, 0, ⟨by omega, by omega, rfl, by decide +kernel⟩, .inr (by decide)⟩)).mono ?_
  rintro e w4 ⟨rfl, rfl⟩
  go_wp2
  go_ret
  exact ⟨rfl, b3⟩
end Go.Proofs.Ytgkjhnilgmokiaa.Ha
