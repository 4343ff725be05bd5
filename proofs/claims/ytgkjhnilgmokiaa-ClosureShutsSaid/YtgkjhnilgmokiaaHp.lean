/- Calls of handles, as HandlePlays and HandleStale read them; small laws for the two tables side by side. -/
import Derived.Test.YtgkjhnilgmokiaaR
import Derived.Test.YtgkjhnilgmokiaaOpen
namespace Go.Proofs.Ytgkjhnilgmokiaa.Hp
open Go.RowKit Go.ChangeShapes Go.WideShapes Go.Proofs.YtgkjhnilgmokiaaW.PrintWords Go.Proofs.Ytgkjhnilgmokiaa.Ha Go.Proofs.Ytgkjhnilgmokiaa.Re
structure C4 where
  f0 : Int
  f1 : Int
  f2 : Int
  f3 : Bool
def z4 : C4 := ⟨0, 0, 0, false⟩
def k4 : Kd C4 := Kd.iso (Kd.pair (Kd.int .i64) (Kd.pair (Kd.int .i64) (Kd.pair (Kd.int .i64) Kd.bool))) (fun x : C4 => (x.f0, x.f1, x.f2, x.f3))
theorem k4_open {w : World} {x : C4} {cs : List Value} (h : k4.K w x cs) : cs = [.int .i64 x.f0, .int .i64 x.f1, .int .i64 x.f2, .bool x.f3] := by
  obtain ⟨_, _, rfl, rfl, ⟨_, _, rfl, rfl, ⟨_, _, rfl, rfl, rfl⟩⟩⟩ := h
  exact rfl
def wf64 (n : Int) : Prop := (Lit.int .i64 n).wf = true
def okC (x : C4) : Prop := wf64 x.f0 ∧ wf64 x.f1 ∧ wf64 x.f2
theorem opens_call : Op.Opens Try.prog 44 k4 okC := by
  have h := Op.opens_iso (fun x : C4 => (x.f0, x.f1, x.f2, x.f3)) (fun y => C4.mk y.1 y.2.1 y.2.2.1 y.2.2.2) (fun _ => rfl)
    (Op.opens_struct Try.underlying44 (by kernel_rfl) (Op.opensF_cons rfl (by kernel_rfl) (Op.opens_int Try.underlying3) (Op.opensF_cons rfl (by kernel_rfl) (Op.opens_int Try.underlying3)
      (Op.opensF_cons rfl (by kernel_rfl) (Op.opens_int Try.underlying3) (Op.opensF_last rfl (by kernel_rfl) (Op.opens_bool Try.underlying4))))))
  intro H enc w base spare held fuel cs x hx
  obtain ⟨y, hy, o1, o2, o3, _⟩ := h H enc w base spare held fuel cs x hx
  exact ⟨y, hy, o1, o2, o3⟩
theorem at_C4 {w : World} {A : Option Addr} {n : Nat} {xs : List C4} (h : Kd.C k4 w A n xs) (i : Nat) (h1 : i < n) : ∃ ad, A = some ad ∧ w.cell? (ad.add (i * 4)) = some (.int .i64 (xs.getD i z4).f0) ∧
    w.cell? ⟨(ad.add (i * 4)).block, (ad.add (i * 4)).off + 1, none⟩ = some (.int .i64 (xs.getD i z4).f1) ∧ w.cell? ⟨(ad.add (i * 4)).block, (ad.add (i * 4)).off + 2, none⟩ = some (.int .i64 (xs.getD i z4).f2) ∧
    w.cell? ⟨(ad.add (i * 4)).block, (ad.add (i * 4)).off + 3, none⟩ = some (.bool (xs.getD i z4).f3) := by
  obtain ⟨ad, c, e, _, hK, hc0⟩ := Kd.C_get h z4 i (by omega) (by omega)
  rw [Int.toNat_natCast] at hc0 hK
  have hc : ∀ j u, c[j]? = some u → w.cell? (ad.add (i * 4 + j)) = some u := hc0
  obtain rfl := k4_open hK
  exact ⟨ad, e, hc 0 _ rfl, by rw [← add_field _ _ 1 (by omega)]; exact hc 1 _ rfl, by rw [← add_field _ _ 2 (by omega)]; exact hc 2 _ rfl, by rw [← add_field _ _ 3 (by omega)]; exact hc 3 _ rfl⟩
theorem own' {w : World} : ∀ (k : Nat), some w.heap.size = some k → w.heap.size ≤ k := fun k hk => by injection hk with hk; omega
def tabR0 : Array Value := tabR (fun _ => 0) (fun _ => false) (fun _ => 0)
def St (w wr : World) (k : Nat) (s : Value) : Prop := ∃ (o o' : Nat → Int) (u : Nat → Bool) (a : Nat → Int) (l : List Int), Tab wr w.heap.size o u a ∧ RTab wr (w.heap.size + 1) o' u a ∧ (∀ i, i < 64 → u i = true → o i = o' i) ∧ (∀ i, 0 ≤ a i ∧ a i ≤ (k : Int)) ∧
  wr.ownsRow (w.heap.size + 2) 3 1 s l.length (l.map (Value.int .i64)) ∧ l.length ≤ k ∧ (∀ x ∈ l, 0 ≤ x ∧ x ≤ 100000) ∧ Below w.heap.size w wr
theorem own_int {w : World} {base n : Nat} {v : Value} {l : List Int} (h : w.ownsRow base 3 1 v n (l.map (Value.int .i64))) : n = l.length ∧ ∃ A c, v = .slice A l.length c ∧ ∀ i, i < l.length → ∃ ad, A = some ad ∧ w.cell? (ad.add i) = some (.int .i64 (l.getD i 0)) := by
  have hn : n = l.length := by have := h.1; rw [List.length_map] at this; omega
  subst hn
  refine ⟨rfl, ?_⟩
  rcases h.2 with ⟨rfl, h0⟩ | ⟨g, cap, cur, rfl, _, _, _⟩
  · exact ⟨none, 0, by rw [h0], fun i hi => by omega⟩
  · refine ⟨_, _, rfl, fun i hi => ⟨_, rfl, ?_⟩⟩
    refine h.cells rfl i _ ?_
    rw [List.getElem?_map, List.getElem?_eq_getElem hi, List.getD_eq_getElem?_getD, List.getElem?_eq_getElem hi]
    rfl
theorem cell_heap {w wr : World} (h : wr.heap = w.heap) (a : Addr) : wr.cell? a = w.cell? a := by
  unfold World.cell?
  rw [h]
theorem same_yes (A B : Option Addr) (c d : Nat) (l : List Int) (w : World) (hl : l.length ≤ 1000) (hA : ∀ i, i < l.length → ∃ ad, A = some ad ∧ w.cell? (ad.add i) = some (.int .i64 (l.getD i 0)))
    (hB : ∀ i, i < l.length → ∃ ad, B = some ad ∧ w.cell? (ad.add i) = some (.int .i64 (l.getD i 0))) :
    Calls Try.prog 15 #[.slice A l.length c, .slice B l.length d] w fun e w' => e = .returned (.bool true) ∧ Below w.heap.size w w' := by
  have HA := Lib.hid hA
  have HB := Lib.hid hB
  clear hA hB
  go_enter Try.func15, Try.ntmps15
  go_wp2
  go_loopw [13] (fun i wr => ∃ k : Nat, k ≤ l.length ∧ i = .int .i64 (k : Int) ∧ wr.heap = w.heap ∧ Below w.heap.size w wr) (fun i _ => l.length - (intOf i).toNat)
  case atStart => exact ⟨0, by omega, rfl, rfl, Below.refl _ _⟩
  case round =>
    obtain ⟨k, hk, rfl, hh, hb⟩ := hrel
    by_cases hlt : k < l.length
    · obtain ⟨ad, rfl, hc⟩ := HA.out k hlt
      obtain ⟨ae, rfl, hd⟩ := HB.out k hlt
      rw [← cell_heap hh] at hc hd
      generalize l.getD k 0 = z at hc hd
      have HH := Lib.hid hh
      clear hh
      go_wp2
      go_region
      go_wp2
      go_roundw
      case rel => exact ⟨k + 1, by omega, by go_num, HH.out, hb.drew⟩
      case measure => simp [intOf]; omega
    · obtain rfl : k = l.length := by omega
      go_wp2
      go_ret
      exact ⟨rfl, hb⟩
theorem least_free (u : Nat → Bool) : ∀ n, (∀ i, i < n → u i = true) ∨ ∃ m, m < n ∧ u m = false ∧ ∀ j, j < m → u j = true := by
  intro n
  induction n with
  | zero => exact .inl fun i hi => by omega
  | succ n ih =>
    rcases ih with ih | ⟨m, h1, h2, h3⟩
    · cases hu : u n with
      | true =>
        refine .inl fun i hi => ?_
        by_cases e : i = n
        · rw [e]; exact hu
        · exact ih i (by omega)
      | false => exact .inr ⟨n, by omega, hu, ih⟩
    · exact .inr ⟨m, by omega, h2, h3⟩
theorem slot_dec (h : Int) (u : Nat → Bool) (a : Nat → Int) (h1 : h ≤ 9223372036854775807) : (∃ m, IsSlot h m (a m) ∧ u m = true) ∨ (h < 0 ∨ ∃ m q, IsSlot h m q ∧ (u m = false ∨ q ≠ a m)) := by
  by_cases h0 : 0 ≤ h
  · have hs := IsSlot.of h h0 h1
    cases hu : u (h % 64).toNat with
    | false => exact .inr (.inr ⟨_, _, hs, .inl hu⟩)
    | true =>
      by_cases hq : h / 64 = a (h % 64).toNat
      · rw [hq] at hs
        exact .inl ⟨_, hs, hu⟩
      · exact .inr (.inr ⟨_, _, hs, .inr hq⟩)
  · exact .inr (.inl (by omega))
theorem allL_eq {o o' : Nat → Int} {u : Nat → Bool} (n : Nat) (h : ∀ i, i < n → u i = true → o i = o' i) : allL o u n = allL o' u n := by
  unfold allL
  refine List.map_congr_left fun i hi => ?_
  rw [List.mem_filter, List.mem_range] at hi
  exact h i hi.1 hi.2
theorem movN_eq {o o' : Nat → Int} {u : Nat → Bool} (x : Int) (n : Nat) (h : ∀ i, i < n → u i = true → o i = o' i) : movN o u x n = movN o' u x n := by
  unfold movN
  congr 1
  refine List.filter_congr fun i hi => ?_
  rw [List.mem_range] at hi
  cases hu : u i with
  | false => rfl
  | true => rw [h i hi hu]
theorem movO_eq {o o' : Nat → Int} {u : Nat → Bool} (x y : Int) (h : ∀ i, i < 64 → u i = true → o i = o' i) (i : Nat) (hi : i < 64) (hu : u i = true) : movO o u x y 64 i = movO o' u x y 64 i := by
  unfold movO
  rw [h i hi hu]
theorem tab_keep {w w' : World} {g : Nat} {o : Nat → Int} {u : Nat → Bool} {a : Nat → Int} {r : Option Nat} (h : Tab w g o u a) (hg : w.grownBy w' r) (hne : r ≠ some g) : Tab w' g o u a :=
  (hg.block g (Array.getElem?_eq_some_iff.1 h).1 (fun e => hne e.symm)).trans h
theorem tab_alloc {w : World} {g : Nat} {o : Nat → Int} {u : Nat → Bool} {a : Nat → Int} (h : Tab w g o u a) (b : Obj) : Tab (w.alloc b) g o u a :=
  (heap_alloc_old w b (Array.getElem?_eq_some_iff.1 h).1).trans h
def Cb (w : World) (C : Nat) (f0 f1 f2 : Int) (f3 : Bool) : Prop := w.heap[C]? = some (.cells #[.int .i64 f0, .int .i64 f1, .int .i64 f2, .bool f3] 44 (0, 0))
theorem Cb.keep {w w' : World} {C : Nat} {f0 f1 f2 : Int} {f3 : Bool} {r : Option Nat} (h : Cb w C f0 f1 f2 f3) (hg : w.grownBy w' r) (hne : r ≠ some C) : Cb w' C f0 f1 f2 f3 :=
  (hg.block C (Array.getElem?_eq_some_iff.1 h).1 (fun e => hne e.symm)).trans h
theorem Cb.c1 {w : World} {C : Nat} {f0 f1 f2 : Int} {f3 : Bool} (h : Cb w C f0 f1 f2 f3) : w.cell? ⟨C, 1, none⟩ = some (.int .i64 f1) := by
  rw [cell_of_row w C 1 _ 44 (0, 0) h]; rfl
theorem Cb.c2 {w : World} {C : Nat} {f0 f1 f2 : Int} {f3 : Bool} (h : Cb w C f0 f1 f2 f3) : w.cell? ⟨C, 2, none⟩ = some (.int .i64 f2) := by
  rw [cell_of_row w C 2 _ 44 (0, 0) h]; rfl
theorem own_keep {w w1 : World} {base : Nat} {v : Value} {n : Nat} {xs : List Value} (h : w.ownsRow base 3 1 v n xs) {g : Nat} (hg : w.grownBy w1 (some g)) (hlt : g < base) : w1.ownsRow base 3 1 v n xs := by
  refine own_other h hg (.inr fun e => ?_)
  have := (h.lt g e).1
  omega
theorem le_of_wf {n : Int} (h : wf64 n) : n ≤ 9223372036854775807 := by
  have : (Lit.int .i64 n).wf = true := h
  simp [Lit.wf] at this
  omega
theorem cb_new (w : World) (f0 f1 f2 : Int) (f3 : Bool) : Cb (w.alloc (.cells #[.int .i64 f0, .int .i64 f1, .int .i64 f2, .bool f3] 44)) w.heap.size f0 f1 f2 f3 := heap_alloc_new w _
theorem modl (m : Int) (n : Nat) (h2 : 0 < n) (h : n ≤ 1000) : ∃ d : Nat, d < n ∧ wrap64 ((IntKind.u64.wrap m).tmod (n : Int)) = (d : Int) := by
  have h0 : 0 ≤ m % 18446744073709551616 := Int.emod_nonneg _ (by omega)
  rw [IntKind.wrap_u64, Int.tmod_eq_emod_of_nonneg h0]
  have h1 := Int.emod_nonneg (m % 18446744073709551616) (show (n : Int) ≠ 0 by omega)
  have h3 := Int.emod_lt_of_pos (m % 18446744073709551616) (show (0 : Int) < n by omega)
  refine ⟨(m % 18446744073709551616 % n).toNat, by omega, ?_⟩
  unfold wrap64
  omega
theorem said_h (l : List Int) (f1 : Int) (f3 : Bool) (h1 : f1 ≤ 9223372036854775807) (hlen : l.length ≤ 1000) (hl : ∀ x ∈ l, 0 ≤ x ∧ x ≤ 100000) :
    ∃ hv : Int, hv ≤ 9223372036854775807 ∧ ((f3 = false ∧ hv = f1) ∨ (f3 = true ∧ l = [] ∧ hv = f1) ∨ (f3 = true ∧ 0 < l.length ∧ ∃ d : Nat, d < l.length ∧ wrap64 ((IntKind.u64.wrap f1).tmod (l.length : Int)) = (d : Int) ∧ hv = l.getD d 0)) := by
  cases f3 with
  | false => exact ⟨f1, h1, .inl ⟨rfl, rfl⟩⟩
  | true =>
    by_cases h : 0 < l.length
    · obtain ⟨d, hd, e⟩ := modl f1 l.length h hlen
      have hm : l.getD d 0 ∈ l := by
        rw [List.getD_eq_getElem?_getD, List.getElem?_eq_getElem hd]
        exact List.getElem_mem hd
      exact ⟨l.getD d 0, by have := (hl _ hm).2; omega, .inr (.inr ⟨rfl, h, d, hd, e, rfl⟩)⟩
    · exact ⟨f1, h1, .inr (.inl ⟨rfl, List.length_eq_zero_iff.1 (by omega), rfl⟩)⟩
theorem size_al (w : World) (b : Obj) : (w.alloc b).heap.size = w.heap.size + 1 := by
  show (w.heap.push b).size = _
  rw [Array.size_push]
theorem st0 (w : World) : St w ((w.alloc (.cells tab0 76)).alloc (.cells tabR0 63)) 0 (.slice none 0 0) := by
  have hR0 : RTab ((w.alloc (.cells tab0 76)).alloc (.cells tabR0 63)) (w.heap.size + 1) (fun _ => 0) (fun _ => false) (fun _ => 0) := by
    have := heap_alloc_new (w.alloc (.cells tab0 76)) (.cells tabR0 63)
    rw [size_al] at this
    exact this
  have h0 : Tab (w.alloc (.cells tab0 76)) w.heap.size (fun _ => 0) (fun _ => false) (fun _ => 0) := heap_alloc_new w _
  have hT1 : Tab ((w.alloc (.cells tab0 76)).alloc (.cells tabR0 63)) w.heap.size (fun _ => 0) (fun _ => false) (fun _ => 0) := (heap_alloc_old _ _ (by rw [size_al]; omega)).trans h0
  have hb1 : Below w.heap.size w ((w.alloc (.cells tab0 76)).alloc (.cells tabR0 63)) := ((Below.refl _ _).alloc (Nat.le_refl _) _).alloc (by rw [size_al]; omega) (.cells tabR0 63)
  refine ⟨fun _ => 0, fun _ => 0, fun _ => false, fun _ => 0, [], hT1, hR0, ?_, ?_, World.ownsRow_nil _ _ _ _, Nat.le_refl _, ?_, hb1⟩
  · intro i _ h; cases h
  · intro i; exact ⟨Int.le_refl _, Int.le_refl _⟩
  · intro x hx; cases hx
theorem st_append {w w2 w4 : World} {k : Nat} {s v' : Value} {o o' : Nat → Int} {u : Nat → Bool} {a : Nat → Int} {l : List Int} {z : Int} {b : Obj} (T : Tab w2 w.heap.size o u a) (R : RTab w2 (w.heap.size + 1) o' u a)
    (oo : ∀ i, i < 64 → u i = true → o i = o' i) (ha : ∀ i, 0 ≤ a i ∧ a i ≤ (k : Int)) (L : w2.ownsRow (w.heap.size + 2) 3 1 s l.length (l.map (Value.int .i64))) (hlk : l.length ≤ k) (hlr : ∀ x ∈ l, 0 ≤ x ∧ x ≤ 100000)
    (hb : Below w.heap.size w w2) (hz : 0 ≤ z ∧ z ≤ 100000) (ho : w4.ownsRow (w.heap.size + 2) 3 1 v' (l.length + 1) (l.map (Value.int .i64) ++ [.int .i64 z])) (hg : (w2.alloc b).grownBy w4 s.ownBlock) : St w w4 (k + 1) v' := by
  have h1 : w.heap.size + 1 < w2.heap.size := (Array.getElem?_eq_some_iff.1 R).1
  have n1 : s.ownBlock ≠ some w.heap.size := fun e => by have := (L.lt _ e).1; omega
  have n2 : s.ownBlock ≠ some (w.heap.size + 1) := fun e => by have := (L.lt _ e).1; omega
  refine ⟨o, o', u, a, l ++ [z], tab_keep (tab_alloc T b) hg n1, (R.alloc b).keep hg n2, oo, fun i => ⟨(ha i).1, by have := (ha i).2; omega⟩, ?_, by rw [List.length_append]; simp; omega, ?_, ?_⟩
  · rw [List.length_append, List.map_append]; exact ho
  · intro x hx
    rcases List.mem_append.1 hx with hx | hx
    · exact hlr x hx
    · rw [List.mem_singleton.1 hx]; exact hz
  · refine (hb.alloc (by omega) b).grown hg (by rw [size_al]; omega) (fun j hj => ?_)
    have := (L.lt j hj).1
    omega
theorem upd_oo {o o' : Nat → Int} {u : Nat → Bool} (h : ∀ i, i < 64 → u i = true → o i = o' i) (m : Nat) (x : Int) : ∀ i, i < 64 → upd u m true i = true → upd o m x i = upd o' m x i := by
  intro i hi hu
  unfold upd at hu ⊢
  by_cases e : i = m
  · rw [if_pos e, if_pos e]
  · rw [if_neg e] at hu
    rw [if_neg e, if_neg e]
    exact h i hi hu
theorem drop_oo {o o' : Nat → Int} {u : Nat → Bool} (h : ∀ i, i < 64 → u i = true → o i = o' i) (m : Nat) (x : Int) : ∀ i, i < 64 → upd u m false i = true → upd o m x i = o' i := by
  intro i hi hu
  unfold upd at hu ⊢
  by_cases e : i = m
  · rw [if_pos e] at hu; cases hu
  · rw [if_neg e] at hu
    rw [if_neg e]
    exact h i hi hu
theorem drop_age {a : Nat → Int} {k : Nat} (h : ∀ i, 0 ≤ a i ∧ a i ≤ (k : Int)) (m : Nat) : ∀ i, 0 ≤ upd a m (a m + 1) i ∧ upd a m (a m + 1) i ≤ ((k + 1 : Nat) : Int) := by
  intro i
  have h1 := h m
  have h2 := h i
  unfold upd
  by_cases e : i = m
  · rw [if_pos e]; omega
  · rw [if_neg e]; omega
theorem st_same {w w2 : World} {k : Nat} {s : Value} {o o' : Nat → Int} {u : Nat → Bool} {a : Nat → Int} {l : List Int} (T : Tab w2 w.heap.size o u a) (R : RTab w2 (w.heap.size + 1) o' u a)
    (oo : ∀ i, i < 64 → u i = true → o i = o' i) (ha : ∀ i, 0 ≤ a i ∧ a i ≤ ((k + 1 : Nat) : Int)) (L : w2.ownsRow (w.heap.size + 2) 3 1 s l.length (l.map (Value.int .i64))) (hlk : l.length ≤ k) (hlr : ∀ x ∈ l, 0 ≤ x ∧ x ≤ 100000)
    (hb : Below w.heap.size w w2) : St w w2 (k + 1) s := ⟨o, o', u, a, l, T, R, oo, ha, L, by omega, hlr, hb⟩
theorem age_next {a : Nat → Int} {k : Nat} (h : ∀ i, 0 ≤ a i ∧ a i ≤ (k : Int)) : ∀ i, 0 ≤ a i ∧ a i ≤ ((k + 1 : Nat) : Int) := fun i => ⟨(h i).1, by have := (h i).2; omega⟩
theorem next_len (L : List Int) (z : Int) : (L ++ [z]).length = L.length + 1 := by simp
theorem tab_below {w w' : World} {g : Nat} {o : Nat → Int} {u : Nat → Bool} {a : Nat → Int} (h : Tab w g o u a) (hb : Below w.heap.size w w') : Tab w' g o u a :=
  (hb.block g (Array.getElem?_eq_some_iff.1 h).1).trans h
theorem own_below {w w1 : World} {base base' n : Nat} {v : Value} {xs : List Value} (h : w.ownsRow base 3 1 v n xs) (hb : Below w.heap.size w w1) (hle : base' ≤ base) : w1.ownsRow base' 3 1 v n xs :=
  own_weaken (own_move h fun k hk => hb.block k (h.lt k hk).2) hle
theorem keepR {w w' : World} {r : Option Nat} (hg : w.grownBy w' r) {g : Nat} {o : Nat → Int} {u : Nat → Bool} {a : Nat → Int} (h : w.heap[g]? = some (.cells (tabR o u a) 63 (0, 0))) (hne : r ≠ some g) : RTab w' g o u a := RTab.keep h hg hne
theorem keepC {w w' : World} {r : Option Nat} (hg : w.grownBy w' r) {C : Nat} {f0 f1 f2 : Int} {f3 : Bool} (h : w.heap[C]? = some (.cells #[.int .i64 f0, .int .i64 f1, .int .i64 f2, .bool f3] 44 (0, 0))) (hne : r ≠ some C) : Cb w' C f0 f1 f2 f3 := Cb.keep h hg hne
theorem own_drew {w : World} {base n : Nat} {v : Value} {xs : List Value} (h : w.ownsRow base 3 1 v n xs) : w.drew.ownsRow base 3 1 v n xs := h
structure Bun (w W : World) (C : Nat) (s : Value) (o o' : Nat → Int) (u : Nat → Bool) (a : Nat → Int) (l : List Int) (f0 f1 f2 : Int) (f3 : Bool) : Prop where
  T : Tab W w.heap.size o u a
  R : RTab W (w.heap.size + 1) o' u a
  Q : Cb W C f0 f1 f2 f3
  L : W.ownsRow (w.heap.size + 2) 3 1 s l.length (l.map (Value.int .i64))
  B : Below w.heap.size w W
  hC : w.heap.size + 2 ≤ C
theorem Bun.drew {w W : World} {C : Nat} {s : Value} {o o' : Nat → Int} {u : Nat → Bool} {a : Nat → Int} {l : List Int} {f0 f1 f2 : Int} {f3 : Bool} (h : Bun w W C s o o' u a l f0 f1 f2 f3) : Bun w W.drew C s o o' u a l f0 f1 f2 f3 :=
  ⟨h.T, h.R, h.Q, h.L, h.B.drew, h.hC⟩
theorem bun_move {w W : World} {C : Nat} {s : Value} {o o' : Nat → Int} {u : Nat → Bool} {a : Nat → Int} {l : List Int} {f0 f1 f2 : Int} {f3 : Bool} (x y : Int) (h : Bun w W C s o o' u a l f0 f1 f2 f3) :
    Calls Try.prog 26 #[.pointer (some ⟨w.heap.size, 0, none⟩), .int .i64 x, .int .i64 y] W fun e w1 => e = .returned (.int .i64 (movN o u x 64 : Int)) ∧ Bun w w1 C s (movO o u x y 64) o' u a l f0 f1 f2 f3 := by
  refine (move_any _ _ _ _ x y W h.T).mono ?_
  rintro e w1 ⟨rfl, T1, g1⟩
  have hC := h.hC
  exact ⟨rfl, T1, h.R.keep g1 (by intro e; injection e with e; omega), h.Q.keep g1 (by intro e; injection e with e; omega), own_keep h.L g1 (by omega), h.B.grown g1 h.B.size (fun k hk => by injection hk with hk; omega), hC⟩
theorem bun_rmove {w W : World} {C : Nat} {s : Value} {o o' : Nat → Int} {u : Nat → Bool} {a : Nat → Int} {l : List Int} {f0 f1 f2 : Int} {f3 : Bool} (x y : Int) (h : Bun w W C s o o' u a l f0 f1 f2 f3) :
    Calls Try.prog 31 #[.pointer (some ⟨w.heap.size + 1, 0, none⟩), .int .i64 x, .int .i64 y] W fun e w1 => e = .returned (.int .i64 (movN o' u x 64 : Int)) ∧ Bun w w1 C s o (movO o' u x y 64) u a l f0 f1 f2 f3 := by
  refine (rmove_any _ _ _ _ x y W h.R).mono ?_
  rintro e w1 ⟨rfl, R1, g1⟩
  have hC := h.hC
  exact ⟨rfl, tab_keep h.T g1 (by intro e; injection e with e; omega), R1, h.Q.keep g1 (by intro e; injection e with e; omega), own_keep h.L g1 (by omega), h.B.grown g1 h.B.size (fun k hk => by injection hk with hk; omega), hC⟩
end Go.Proofs.Ytgkjhnilgmokiaa.Hp
