/- The reference's handles: what Put, slot, Get, Drop, Move and All do, said of the block of its table. -/
import Derived.Test.YtgkjhnilgmokiaaH
namespace Go.Proofs.Ytgkjhnilgmokiaa.Re
open Go.RowKit Go.Proofs.Ytgkjhnilgmokiaa.Ha

def cellR (o : Nat → Int) (u : Nat → Bool) (a : Nat → Int) (k : Nat) : Value := if k < 64 then .int .i64 (o k) else if k < 128 then .bool (u (k - 64)) else .int .i64 (a (k - 128))
def tabR (o : Nat → Int) (u : Nat → Bool) (a : Nat → Int) : Array Value := ((List.range 192).map (cellR o u a)).toArray
def RTab (w : World) (g : Nat) (o : Nat → Int) (u : Nat → Bool) (a : Nat → Int) : Prop := w.heap[g]? = some (.cells (tabR o u a) 63 (0, 0))
theorem RTab.cell {w : World} {g : Nat} {o : Nat → Int} {u : Nat → Bool} {a : Nat → Int} (h : RTab w g o u a) (k : Nat) (hk : k < 192) : w.cell? ⟨g, k, none⟩ = some (cellR o u a k) := by
  have := cell_of_row w g k _ 63 (0, 0) h
  rw [this]
  simp [tabR, hk]
theorem RTab.frozen {w : World} {g : Nat} {o : Nat → Int} {u : Nat → Bool} {a : Nat → Int} (h : RTab w g o u a) (k : Nat) : w.frozen? ⟨g, k, none⟩ = false := by
  unfold RTab at h
  simp [World.frozen?, h]
theorem RTab.obj {w : World} {g : Nat} {o : Nat → Int} {u : Nat → Bool} {a : Nat → Int} (h : RTab w g o u a) (i : Nat) (hi : i < 64) : w.cell? ⟨g, i, none⟩ = some (.int .i64 (o i)) := by
  rw [h.cell _ (by omega)]
  unfold cellR
  rw [if_pos hi]
theorem RTab.used {w : World} {g : Nat} {o : Nat → Int} {u : Nat → Bool} {a : Nat → Int} (h : RTab w g o u a) (i : Nat) (hi : i < 64) : w.cell? ⟨g, 64 + i, none⟩ = some (.bool (u i)) := by
  rw [h.cell _ (by omega)]
  unfold cellR
  rw [if_neg (by omega), if_pos (by omega), show 64 + i - 64 = i by omega]
theorem RTab.age {w : World} {g : Nat} {o : Nat → Int} {u : Nat → Bool} {a : Nat → Int} (h : RTab w g o u a) (i : Nat) (hi : i < 64) : w.cell? ⟨g, 128 + i, none⟩ = some (.int .i64 (a i)) := by
  rw [h.cell _ (by omega)]
  unfold cellR
  rw [if_neg (by omega), if_neg (by omega), show 128 + i - 128 = i by omega]
theorem RTab.set {w : World} {g : Nat} {o : Nat → Int} {u : Nat → Bool} {a : Nat → Int} (h : RTab w g o u a) (k : Nat) (v : Value) (o' : Nat → Int) (u' : Nat → Bool) (a' : Nat → Int)
    (hh : ∀ j, j < 192 → cellR o' u' a' j = if j = k then v else cellR o u a j) : RTab (w.setCell ⟨g, k, none⟩ v) g o' u' a' := by
  unfold RTab at *
  simp only [World.setCell, Array.getElem?_modify, h, if_pos, Option.map_some]
  have : (tabR o u a).setIfInBounds k v = tabR o' u' a' := by
    unfold tabR
    refine Array.ext (by simp) fun j h1 h2 => ?_
    have hj : j < 192 := by simpa using h2
    have h3 : j < (List.map (cellR o u a) (List.range 192)).toArray.size := by simpa using hj
    rw [Array.getElem_setIfInBounds h3]
    simp only [List.getElem_toArray, List.getElem_map, List.getElem_range]
    rw [hh j hj]
    by_cases hjk : k = j
    · subst hjk; simp
    · have : ¬ j = k := fun e => hjk e.symm
      rw [if_neg hjk, if_neg this]
  rw [← this]
  rfl
theorem RTab.setObj {w : World} {g : Nat} {o : Nat → Int} {u : Nat → Bool} {a : Nat → Int} (h : RTab w g o u a) (i : Nat) (hi : i < 64) (x : Int) : RTab (w.setCell ⟨g, i, none⟩ (.int .i64 x)) g (upd o i x) u a := by
  refine h.set _ _ _ _ _ fun j _ => ?_
  unfold cellR upd
  by_cases h0 : j = i
  · subst h0; rw [if_pos rfl, if_pos hi, if_pos rfl]
  · rw [if_neg h0, if_neg h0]
theorem RTab.setUsed {w : World} {g : Nat} {o : Nat → Int} {u : Nat → Bool} {a : Nat → Int} (h : RTab w g o u a) (i : Nat) (hi : i < 64) (x : Bool) : RTab (w.setCell ⟨g, 64 + i, none⟩ (.bool x)) g o (upd u i x) a := by
  refine h.set _ _ _ _ _ fun j _ => ?_
  unfold cellR upd
  by_cases h0 : j = 64 + i
  · subst h0; rw [if_pos rfl, if_neg (by omega), if_pos (by omega), if_pos (by omega)]
  · rw [if_neg h0]
    by_cases h1 : j < 64
    · rw [if_pos h1, if_pos h1]
    · rw [if_neg h1, if_neg h1]
      by_cases h2 : j < 128
      · rw [if_pos h2, if_pos h2, if_neg (by omega)]
      · rw [if_neg h2, if_neg h2]
theorem RTab.setAge {w : World} {g : Nat} {o : Nat → Int} {u : Nat → Bool} {a : Nat → Int} (h : RTab w g o u a) (i : Nat) (hi : i < 64) (x : Int) : RTab (w.setCell ⟨g, 128 + i, none⟩ (.int .i64 x)) g o u (upd a i x) := by
  refine h.set _ _ _ _ _ fun j _ => ?_
  unfold cellR upd
  by_cases h0 : j = 128 + i
  · subst h0; rw [if_pos rfl, if_neg (by omega), if_neg (by omega), if_pos (by omega)]
  · rw [if_neg h0]
    by_cases h1 : j < 64
    · rw [if_pos h1, if_pos h1]
    · rw [if_neg h1, if_neg h1]
      by_cases h2 : j < 128
      · rw [if_pos h2, if_pos h2]
      · rw [if_neg h2, if_neg h2, if_neg (by omega)]

theorem slot_yes (g : Nat) (o : Nat → Int) (u : Nat → Bool) (a : Nat → Int) (h : Int) (m : Nat) (w : World) (hT : RTab w g o u a) (hs : IsSlot h m (a m)) (hu : u m = true) :
    Calls Try.prog 41 #[.pointer (some ⟨g, 0, none⟩), .int .i64 h] w fun e w' => e = .returned (.int .i64 (m : Int)) ∧ w = w' := by
  obtain ⟨h0, hm, h1, h2⟩ := hs
  have hc1 := hT.used m hm
  have hc2 := hT.age m hm
  rw [hu] at hc1
  have hne : (wrap64 (h.tdiv 64) != a m) = false := by rw [bne_eq_false_iff_eq]; exact h2
  have h3 : h.tmod 64 = (m : Int) := by rw [Int.tmod_eq_emod_of_nonneg h0]; exact h1
  clear h2 hT hu
  go_enter Try.func41, Try.ntmps41
  go_wp2
  go_ret
  exact ⟨rfl, rfl⟩
theorem slot_no (g : Nat) (o : Nat → Int) (u : Nat → Bool) (a : Nat → Int) (h : Int) (w : World) (hT : RTab w g o u a) (hs : h < 0 ∨ ∃ m q, IsSlot h m q ∧ (u m = false ∨ q ≠ a m)) :
    Calls Try.prog 41 #[.pointer (some ⟨g, 0, none⟩), .int .i64 h] w fun e w' => e = .returned (.int .i64 (-1)) ∧ w = w' := by
  rcases hs with hs | ⟨m, q, ⟨h0, hm, h1, h2⟩, hs⟩
  · clear hT
    go_enter Try.func41, Try.ntmps41
    go_wp2
    go_ret
    exact ⟨rfl, rfl⟩
  · have hc1 := hT.used m hm
    have hc2 := hT.age m hm
    have h3 : h.tmod 64 = (m : Int) := by rw [Int.tmod_eq_emod_of_nonneg h0]; exact h1
    cases hu : u m with
    | false =>
      rw [hu] at hc1
      clear h2 hs hT hu
      go_enter Try.func41, Try.ntmps41
      go_wp2
      go_ret
      exact ⟨rfl, rfl⟩
    | true =>
      rw [hu] at hc1
      have hne : (wrap64 (h.tdiv 64) != a m) = true := by
        rw [bne_iff_ne]
        rcases hs with hs | hs
        · rw [hu] at hs; cases hs
        · rw [h2]; exact hs
      clear h2 hs hT hu
      go_enter Try.func41, Try.ntmps41
      go_wp2
      go_ret
      exact ⟨rfl, rfl⟩
theorem rget_yes (g : Nat) (o : Nat → Int) (u : Nat → Bool) (a : Nat → Int) (h : Int) (m : Nat) (w : World) (hT : RTab w g o u a) (hs : IsSlot h m (a m)) (hu : u m = true) :
    Calls Try.prog 29 #[.pointer (some ⟨g, 0, none⟩), .int .i64 h] w fun e w' => e = .returned (.tuple #[.int .i64 (o m), .int .i64 0]) ∧ w = w' := by
  have hm := hs.2.1
  have hc := hT.obj m hm
  have HS := Lib.hid hs
  have HT := Lib.hid hT
  have HU := Lib.hid hu
  clear hs hT hu
  go_enter Try.func29, Try.ntmps29
  go_wp2_with (go_at_call 41; refine (slot_yes g o u a h m _ HT.out HS.out HU.out).mono ?_; rintro e w' ⟨rfl, rfl⟩)
  go_ret2
  exact ⟨rfl, rfl⟩
theorem rget_no (g : Nat) (o : Nat → Int) (u : Nat → Bool) (a : Nat → Int) (h : Int) (w : World) (hT : RTab w g o u a) (hs : h < 0 ∨ ∃ m q, IsSlot h m q ∧ (u m = false ∨ q ≠ a m)) :
    Calls Try.prog 29 #[.pointer (some ⟨g, 0, none⟩), .int .i64 h] w fun e w' => e = .returned (.tuple #[.int .i64 0, .int .i64 2]) ∧ w = w' := by
  have HS := Lib.hid hs
  have HT := Lib.hid hT
  clear hs hT
  go_enter Try.func29, Try.ntmps29
  go_wp2_with (go_at_call 41; refine (slot_no g o u a h _ HT.out HS.out).mono ?_; rintro e w' ⟨rfl, rfl⟩)
  go_ret2
  exact ⟨rfl, rfl⟩
theorem rdrop_yes (g : Nat) (o : Nat → Int) (u : Nat → Bool) (a : Nat → Int) (h : Int) (m : Nat) (w : World) (hT : RTab w g o u a) (hs : IsSlot h m (a m)) (hu : u m = true) (ha0 : 0 ≤ a m) (ha1 : a m ≤ 1000000) :
    Calls Try.prog 30 #[.pointer (some ⟨g, 0, none⟩), .int .i64 h] w fun e w' => e = .returned (.int .i64 0) ∧ RTab w' g o (upd u m false) (upd a m (a m + 1)) ∧ w.grownBy w' (some g) := by
  have hm := hs.2.1
  have hc1 := hT.used m hm
  have hc2 := hT.age m hm
  have hf1 := hT.frozen (64 + m)
  have hf2 := hT.frozen (128 + m)
  have HS := Lib.hid hs
  have HT := Lib.hid hT
  have HU := Lib.hid hu
  clear hs hT hu
  go_enter Try.func30, Try.ntmps30
  go_wp2_with (go_at_call 41; refine (slot_yes g o u a h m _ HT.out HS.out HU.out).mono ?_; rintro e w' ⟨rfl, rfl⟩)
  go_region
  simp only [Exit.then]
  rename_i K hK
  apply hK
  go_wp2
  go_ret
  exact ⟨rfl, (HT.out.setUsed m hm false).setAge m hm _, grown_trans (grown_set _ _ _ _) (grown_trans (grown_set _ _ _ _) (grown_drew _ _))⟩
theorem rdrop_no (g : Nat) (o : Nat → Int) (u : Nat → Bool) (a : Nat → Int) (h : Int) (w : World) (hT : RTab w g o u a) (hs : h < 0 ∨ ∃ m q, IsSlot h m q ∧ (u m = false ∨ q ≠ a m)) :
    Calls Try.prog 30 #[.pointer (some ⟨g, 0, none⟩), .int .i64 h] w fun e w' => e = .returned (.int .i64 2) ∧ w = w' := by
  have HS := Lib.hid hs
  have HT := Lib.hid hT
  clear hs hT
  go_enter Try.func30, Try.ntmps30
  go_wp2_with (go_at_call 41; refine (slot_no g o u a h _ HT.out HS.out).mono ?_; rintro e w' ⟨rfl, rfl⟩)
  go_ret
  exact ⟨rfl, rfl⟩
theorem rput_full (g : Nat) (o : Nat → Int) (u : Nat → Bool) (a : Nat → Int) (x : Int) (w : World) (hT : RTab w g o u a) (hf : ∀ i, i < 64 → u i = true) :
    Calls Try.prog 28 #[.pointer (some ⟨g, 0, none⟩), .int .i64 x] w fun e w' => e = .returned (.tuple #[.int .i64 0, .int .i64 9]) ∧ w = w' := by
  go_enter Try.func28, Try.ntmps28
  go_wp2
  go_loop [7] (fun i => ∃ k : Nat, k ≤ 64 ∧ i = .int .i64 (k : Int)) (fun i => 64 - (intOf i).toNat)
  case atStart => exact ⟨0, by omega, rfl⟩
  case round =>
    obtain ⟨k, hk, rfl⟩ := hrel
    by_cases hlt : k < 64
    · have hc := hT.used k hlt
      rw [hf k hlt] at hc
      go_wp2
      go_round
      case rel => exact ⟨k + 1, by omega, by go_num⟩
      case measure => simp [intOf]; omega
    · obtain rfl : k = 64 := by omega
      go_wp2
      go_ret2
      exact ⟨rfl, rfl⟩
theorem rput_free (g : Nat) (o : Nat → Int) (u : Nat → Bool) (a : Nat → Int) (x : Int) (w : World) (hT : RTab w g o u a) (m : Nat) (hm : m < 64) (hum : u m = false) (hl : ∀ j, j < m → u j = true)
    (ha0 : 0 ≤ a m) (ha1 : a m ≤ 1000000) :
    Calls Try.prog 28 #[.pointer (some ⟨g, 0, none⟩), .int .i64 x] w fun e w' => e = .returned (.tuple #[.int .i64 ((m : Int) + 64 * a m), .int .i64 0]) ∧ RTab w' g (upd o m x) (upd u m true) a ∧ w.grownBy w' (some g) := by
  go_enter Try.func28, Try.ntmps28
  go_wp2
  go_loop [7] (fun i => ∃ k : Nat, k ≤ m ∧ i = .int .i64 (k : Int)) (fun i => 64 - (intOf i).toNat)
  case atStart => exact ⟨0, by omega, rfl⟩
  case round =>
    obtain ⟨k, hk, rfl⟩ := hrel
    have hk64 : k < 64 := by omega
    have hc := hT.used k hk64
    by_cases hlt : k < m
    · rw [hl k hlt] at hc
      go_wp2
      go_round
      case rel => exact ⟨k + 1, by omega, by go_num⟩
      case measure => simp [intOf]; omega
    · obtain rfl : k = m := by omega
      rw [hum] at hc
      have hc0 := hT.obj k hk64
      have hc2 := hT.age k hk64
      have hf0 := hT.frozen k
      have hf1 := hT.frozen (64 + k)
      have HT := Lib.hid hT
      clear hT hum hl
      go_wp2
      go_region
      simp only [Exit.then]
      rename_i K hK hw
      apply hK
      go_wp2
      go_ret2
      exact ⟨rfl, (HT.out.setUsed k hm true).setObj k hm x, grown_trans (grown_set _ _ _ _) (grown_trans (grown_set _ _ _ _) (grown_drew _ _))⟩
theorem rmove_any (g : Nat) (o : Nat → Int) (u : Nat → Bool) (a : Nat → Int) (x y : Int) (w : World) (hT : RTab w g o u a) :
    Calls Try.prog 31 #[.pointer (some ⟨g, 0, none⟩), .int .i64 x, .int .i64 y] w fun e w' => e = .returned (.int .i64 (movN o u x 64 : Int)) ∧ RTab w' g (movO o u x y 64) u a ∧ w.grownBy w' (some g) := by
  go_enter Try.func31, Try.ntmps31
  go_wp2
  go_loopw [7, 9] (fun n i wr => ∃ k : Nat, k ≤ 64 ∧ i = .int .i64 (k : Int) ∧ n = .int .i64 (movN o u x k : Int) ∧ RTab wr g (movO o u x y k) u a ∧ w.grownBy wr (some g)) (fun _ i _ => 64 - (intOf i).toNat)
  case atStart => exact ⟨0, by omega, rfl, rfl, by rw [show movO o u x y 0 = o from funext fun i => if_neg (by omega)]; exact hT, grown_refl _ _⟩
  case round =>
    obtain ⟨k, hk, rfl, rfl, ht, hg⟩ := hrel
    have hle := movN_le o u x k
    by_cases hlt : k < 64
    · have hc0 := ht.obj k hlt
      have hc1 := ht.used k hlt
      have hf0 := ht.frozen k
      rw [movO_at] at hc0
      cases hu : u k with
      | false =>
        rw [hu] at hc1
        have e1 := movN_no (o := o) (x := x) (.inl hu)
        have HT := Lib.hid ht
        have HU := Lib.hid hu
        have E1 := Lib.hid e1
        clear ht hu e1
        go_wp2
        go_roundw
        case rel => exact ⟨k + 1, by omega, by go_num, by rw [E1.out], by rw [← movO_no (.inl HU.out)]; exact HT.out, hg⟩
        case measure => simp [intOf]; omega
      | true =>
        rw [hu] at hc1
        by_cases hx : o k = x
        · have e1 := movN_yes hu hx
          have e2 := movO_yes (y := y) hu hx
          rw [hx] at hc0
          have HT := Lib.hid ht
          have E1 := Lib.hid e1
          have E2 := Lib.hid e2
          clear ht hu e1 e2 hx
          go_wp2
          go_roundw
          case rel => exact ⟨k + 1, by omega, by go_num, by rw [E1.out]; go_num, by rw [← E2.out]; exact HT.out.setObj k hlt y, grown_trans hg (grown_set _ _ _ _)⟩
          case measure => simp [intOf]; omega
        · have e1 := movN_no (o := o) (u := u) (x := x) (.inr hx)
          have e2 := movO_no (u := u) (y := y) (.inr hx)
          have hne : (o k == x) = false := by rw [beq_eq_false_iff_ne]; exact hx
          have HT := Lib.hid ht
          have E1 := Lib.hid e1
          have E2 := Lib.hid e2
          clear ht hu e1 e2 hx
          go_wp2
          go_roundw
          case rel => exact ⟨k + 1, by omega, by go_num, by rw [E1.out], by rw [← E2.out]; exact HT.out, hg⟩
          case measure => simp [intOf]; omega
    · obtain rfl : k = 64 := by omega
      go_wp2
      go_ret
      exact ⟨rfl, ht, hg⟩
theorem RTab.keep {w w' : World} {g : Nat} {o : Nat → Int} {u : Nat → Bool} {a : Nat → Int} {r : Option Nat} (h : RTab w g o u a) (hg : w.grownBy w' r) (hne : r ≠ some g) : RTab w' g o u a :=
  (hg.block g (Array.getElem?_eq_some_iff.1 h).1 (fun e => hne e.symm)).trans h
theorem RTab.alloc {w : World} {g : Nat} {o : Nat → Int} {u : Nat → Bool} {a : Nat → Int} (h : RTab w g o u a) (b : Obj) : RTab (w.alloc b) g o u a :=
  (heap_alloc_old w b (Array.getElem?_eq_some_iff.1 h).1).trans h
set_option maxHeartbeats 1000000 in
theorem rall_any (g : Nat) (o : Nat → Int) (u : Nat → Bool) (a : Nat → Int) (w : World) (hT : RTab w g o u a) :
    Calls Try.prog 32 #[.pointer (some ⟨g, 0, none⟩)] w fun e w' => ∃ v, e = .returned v ∧ w'.ownsRow w.heap.size 3 1 v (allL o u 64).length ((allL o u 64).map (Value.int .i64)) ∧ Below w.heap.size w w' := by
  obtain ⟨i0, hi0, hz0, hz1, hz2⟩ := info_parts info3
  have hgw : g < w.heap.size := (Array.getElem?_eq_some_iff.1 hT).1
  go_enter Try.func32, Try.ntmps32
  go_wp2
  go_loopw [3, 5] (fun s i wr => ∃ k : Nat, k ≤ 64 ∧ i = .int .i64 (k : Int) ∧ wr.ownsRow w.heap.size 3 1 s (allL o u k).length ((allL o u k).map (Value.int .i64)) ∧ Below w.heap.size w wr ∧ RTab wr g o u a) (fun _ i _ => 64 - (intOf i).toNat)
  case atStart => exact ⟨0, by omega, rfl, World.ownsRow_nil _ _ _ _, Below.refl _ _, hT⟩
  case round =>
    obtain ⟨k, hk, rfl, ho, hb, ht⟩ := hrel
    by_cases hlt : k < 64
    · have hc0 := ht.obj k hlt
      have hc1 := ht.used k hlt
      have HT := Lib.hid ht
      clear ht hT
      cases hu : u k with
      | false =>
        rw [hu] at hc1
        have e1 := allL_no (o := o) hu
        have E1 := Lib.hid e1
        clear e1 hu
        go_wp2
        go_roundw
        case rel => exact ⟨k + 1, by omega, by go_num, by rw [E1.out]; exact ho, hb, HT.out⟩
        case measure => simp [intOf]; omega
      | true =>
        rw [hu] at hc1
        have e1 := allL_yes (o := o) hu
        have hl := allL_le o u k
        have E1 := Lib.hid e1
        clear e1 hu
        go_wp2_with (at_builtin; refine wpList_append_own _ rfl (.tmp 14) (.tmp 21) _ rfl w.heap.size 3 i0 (.int .i64 0) 1 8 Try.underlying27 hi0 hz0 hz1 hz2 rfl (by decide) _ _ _ rfl (ho.alloc _) ⟨wr.heap.size, 0, none⟩ 1 1 [.int .i64 (o k)] rfl rfl ?c1 ?c2 ?c3 ?c4 ?c5 ?_)
        case c1 => exact cell_one_new _ _ _
        case c2 => intro v hv; simp only [List.mem_singleton] at hv; subst hv; rfl
        case c3 => simp only [maxLen]; omega
        case c4 => omega
        case c5 => simp; exact Nat.le_succ_of_le hb.size
        intro v' w1 ho1 hg1 _
        have hne : Value.ownBlock _ ≠ some g := fun e => absurd (ho.lt g e).1 (by omega)
        have HT1 := Lib.hid ((HT.out.alloc _).keep hg1 hne)
        have hb1 : Below w.heap.size w w1 := (hb.alloc hb.size _).grown hg1 (by simp; exact Nat.le_succ_of_le hb.size) (fun j hj => (ho.lt j hj).1)
        have ho2 : w1.ownsRow w.heap.size 3 1 v' (allL o u (k + 1)).length ((allL o u (k + 1)).map (Value.int .i64)) := by
          rw [E1.out, List.map_append, List.length_append]; exact ho1
        clear hg1 ho1 hne
        go_wp2
        go_roundw
        case rel => exact ⟨k + 1, by omega, by go_num, ho2, hb1, HT1.out⟩
        case measure => simp [intOf]; omega
    · obtain rfl : k = 64 := by omega
      go_wp2
      go_ret
      exact ⟨_, rfl, ho, hb⟩
end Go.Proofs.Ytgkjhnilgmokiaa.Re
