/- The buffer: its functions by their contracts, and what they reckon, in plain lists. -/
import Derived.Test.YtmdjbldmfmoaaaaBase
import Derived.StillTailTactics
import Derived.Deep.RegionLaw
namespace Go.Proofs.Ytmdjbldmfmoaaaa.Bu
open Go.RowKit Go.ChangeShapes Go.WideShapes Go.Proofs.YtmdjbldmfmoaaaaW.PrintWords Go.Proofs.Ytmdjbldmfmoaaaa.Ba
set_option linter.unusedVariables false
def mayB (w : W8) : Bool := if (w.kind == 1) = true then decide (0 ≤ w.obj) && decide (0 ≤ w.field) && decide (0 ≤ w.v.kd) && decide (w.v.kd ≤ 3) else if (w.kind == 2 || w.kind == 3) = true then decide (0 ≤ w.field) && (w.v.kd == 0 || w.v.kd == 3) else false
def told5 (v : V5) : V5 := if (v.kd == 1) = true then ⟨1, v.n, 0, 0, 0⟩ else if (v.kd == 2) = true then ⟨2, 0, v.re, v.im, 0⟩ else if (v.kd == 3) = true then ⟨3, 0, 0, 0, v.ref⟩ else z5
def matchP (k o f : Int) (x : W8) : Bool := x.kind == k && x.field == f && (k != 1 || x.obj == o)
def fi (k o f : Int) (l : List W8) : Int := if l.findIdx (matchP k o f) < l.length then (l.findIdx (matchP k o f) : Int) else -1
def norm (w : W8) : W8 := ⟨w.kind, if (w.kind == 1) = true then w.obj else 0, w.field, told5 w.v⟩
def mN (w : W8) (x : W8) : Bool := matchP (norm w).kind (norm w).obj (norm w).field x
def putL (l : List W8) (w : W8) : List W8 := if mayB w = true then (if l.findIdx (mN w) < l.length then l.set (l.findIdx (mN w)) (norm w) else if l.length = 64 then l else l ++ [norm w]) else l
def putE (l : List W8) (w : W8) : Int := if mayB w = true then (if l.findIdx (mN w) < l.length then 0 else if l.length = 64 then 9 else 0) else 1
/-- A buffer: its block, its row. -/
def Bf (W : World) (B g : Nat) (v : Value) (l : List W8) : Prop := W.heap[g]? = some (.cells #[v] 54 (0, 0)) ∧ R8 W B v l ∧ B ≤ g ∧ l.length ≤ 64
/-- All but the block g, and the row's, is as it was. -/
structure Kp (W W' : World) (g : Nat) (v : Value) : Prop where
  os : W'.os = W.os
  tape : W'.tape = W.tape
  output : W'.output = W.output
  size : W.heap.size ≤ W'.heap.size
  block : ∀ k, k < W.heap.size → k ≠ g → v.ownBlock ≠ some k → W'.heap[k]? = W.heap[k]?
theorem Kp.of_below {W W' : World} (h : Below W.heap.size W W') (g : Nat) (v : Value) : Kp W W' g v := ⟨h.os, h.tape, h.output, h.size, fun k hk _ _ => h.block k hk⟩
theorem Kp.trans {W W1 W2 : World} {g : Nat} {v v1 : Value} (h : Kp W W1 g v) (h1 : Kp W1 W2 g v1) (hv : v1.ownBlock = v.ownBlock ∨ ∃ b, v1.ownBlock = some b ∧ W.heap.size ≤ b) : Kp W W2 g v := by
  refine ⟨h1.os.trans h.os, h1.tape.trans h.tape, h1.output.trans h.output, Nat.le_trans h.size h1.size, fun k hk hg hne => ?_⟩
  refine (h1.block k (Nat.lt_of_lt_of_le hk h.size) hg ?_).trans (h.block k hk hg hne)
  rcases hv with hv | ⟨b, hb, hle⟩
  · rw [hv]; exact hne
  · rw [hb]
    intro e
    injection e with e
    omega
theorem Kp.of_grown_v {W W' : World} {v : Value} (h : W.grownBy W' v.ownBlock) (g : Nat) : Kp W W' g v := ⟨h.os, h.tape, h.output, h.size, fun k hk _ hne => h.block k hk (fun e => hne e.symm)⟩
theorem Kp.of_grown_g {W W' : World} {g : Nat} (h : W.grownBy W' (some g)) (v : Value) : Kp W W' g v := ⟨h.os, h.tape, h.output, h.size, fun k hk hg _ => h.block k hk (fun e => hg (by injection e))⟩
theorem Kp.below {W W' : World} {B g : Nat} {v : Value} {l : List W8} (h : Kp W W' g v) (hf : Bf W B g v l) : Below B W W' := by
  refine ⟨h.os, h.tape, h.output, h.size, fun k hk => ?_⟩
  have h1 := hf.2.2.1
  have h2 : g < W.heap.size := (Array.getElem?_eq_some_iff.1 hf.1).1
  refine h.block k (by omega) (by omega) fun e => ?_
  have := (hf.2.1.lt k e).1
  omega
theorem Bf.lt {W : World} {B g : Nat} {v : Value} {l : List W8} (hf : Bf W B g v l) : g < W.heap.size := (Array.getElem?_eq_some_iff.1 hf.1).1
theorem Bf.later {W W' : World} {B g : Nat} {v : Value} {l : List W8} (hf : Bf W B g v l) (hb : Below W.heap.size W W') : Bf W' B g v l :=
  ⟨(hb.block g hf.lt).trans hf.1, hf.2.1.below hb, hf.2.2⟩
theorem Bf.cell {W : World} {B g : Nat} {v : Value} {l : List W8} (hf : Bf W B g v l) : W.cell? ⟨g, 0, none⟩ = some v := cell_of_one hf.1
theorem Bf.free {W : World} {B g : Nat} {v : Value} {l : List W8} (hf : Bf W B g v l) : W.frozen? ⟨g, 0, none⟩ = false := free_of_one hf.1
theorem Bf.ne {W : World} {B g : Nat} {v : Value} {l : List W8} (hf : Bf W B g v l) : v.ownBlock ≠ some g := by
  intro e
  obtain ⟨inner, ho⟩ := Kd.R_own hf.2.1
  obtain ⟨cs, hc⟩ := own_typed ho g e
  have h := hf.1
  rw [hc] at h
  injection h with h
  injection h with _ h
  cases h
theorem new_any (w : World) : Calls Try.prog 9 #[] w fun e w' => e = .returned (.pointer (some ⟨w.heap.size, 0, none⟩)) ∧ w' = w.alloc (.cells #[.slice none 0 0] 54) := by
  have hz : ∀ w, (zeroValue 54).run Try.prog w = .ok (.agg #[.slice none 0 0]) w := fun w => by kernel_rfl
  go_enter Try.func9, Try.ntmps9
  go_wp2
  go_ret
  exact ⟨rfl, rfl⟩
theorem bf_new (w : World) : Bf (w.alloc (.cells #[.slice none 0 0] 54)) w.heap.size w.heap.size (.slice none 0 0) [] :=
  ⟨heap_alloc_new w _, R8.nil _ _, Nat.le_refl _, by simp⟩
theorem ref_any (x : Int) (w : World) : Calls Try.prog 11 #[.int .i64 x] w fun e w' => e = .returned (agg5 ⟨3, 0, 0, 0, x⟩) ∧ ∃ cs, w' = w.alloc (.cells cs 28) := by
  go_enter Try.func11, Try.ntmps11
  go_wp2
  exact bodyPost_ret (v := agg5 ⟨3, 0, 0, 0, x⟩) (by simp [results, Try.results11, go_sem, agg5]) rfl ⟨rfl, _, rfl⟩
def ToldPost (v : V5) (w : World) (e : Ending) (w' : World) : Prop := e = .returned (agg5 (told5 v)) ∧ Below w.heap.size w w'
theorem told_any (v : V5) (w : World) : Calls Try.prog 26 #[agg5 v] w (ToldPost v w) := by
  obtain ⟨f0, f1, f2, f3, f4⟩ := v
  unfold agg5
  dsimp only
  have hz : ∀ w, (zeroValue 28).run Try.prog w = .ok (.agg #[.int .i64 0, .int .i64 0, .int .u64 0, .int .u64 0, .int .i64 0]) w := fun w => by kernel_rfl
  cases e1 : (f0 == 1)
  · cases e2 : (f0 == 2)
    · cases e3 : (f0 == 3)
      · have HP : Hid (told5 ⟨f0, f1, f2, f3, f4⟩ = z5) := Lib.hid (by unfold told5; dsimp only; rw [e1, e2, e3]; rfl)
        go_enter Try.func26, Try.ntmps26
        go_wp2
        exact bodyPost_ret (v := agg5 z5) (by simp [results, Try.results26, go_sem, agg5, z5]) rfl ⟨by rw [HP.out], (((Below.refl _ _).alloc (Nat.le_refl _) _).alloc (by simp) _)⟩
      · obtain rfl : f0 = 3 := beq_iff_eq.1 e3
        have HP : Hid (told5 ⟨3, f1, f2, f3, f4⟩ = ⟨3, 0, 0, 0, f4⟩) := Lib.hid rfl
        go_enter Try.func26, Try.ntmps26
        go_wp2
        exact bodyPost_ret (v := agg5 ⟨3, 0, 0, 0, f4⟩) (by simp [results, Try.results26, go_sem, agg5]) rfl ⟨by rw [HP.out], (((Below.refl _ _).alloc (Nat.le_refl _) _).alloc (by simp) _)⟩
    · obtain rfl : f0 = 2 := beq_iff_eq.1 e2
      have HP : Hid (told5 ⟨2, f1, f2, f3, f4⟩ = ⟨2, 0, f2, f3, 0⟩) := Lib.hid rfl
      go_enter Try.func26, Try.ntmps26
      go_wp2
      exact bodyPost_ret (v := agg5 ⟨2, 0, f2, f3, 0⟩) (by simp [results, Try.results26, go_sem, agg5]) rfl ⟨by rw [HP.out], (((Below.refl _ _).alloc (Nat.le_refl _) _).alloc (by simp) _)⟩
  · obtain rfl : f0 = 1 := beq_iff_eq.1 e1
    have HP : Hid (told5 ⟨1, f1, f2, f3, f4⟩ = ⟨1, f1, 0, 0, 0⟩) := Lib.hid rfl
    go_enter Try.func26, Try.ntmps26
    go_wp2
    exact bodyPost_ret (v := agg5 ⟨1, f1, 0, 0, 0⟩) (by simp [results, Try.results26, go_sem, agg5]) rfl ⟨by rw [HP.out], (((Below.refl _ _).alloc (Nat.le_refl _) _).alloc (by simp) _)⟩
def BoolPost (b : Bool) (w : World) (e : Ending) (w' : World) : Prop := e = .returned (.bool b) ∧ Below w.heap.size w w'
theorem may_cases (x : W8) : (mayB x = true ∧ (((x.kind == 1) = true ∧ 0 ≤ x.obj ∧ 0 ≤ x.field ∧ 0 ≤ x.v.kd ∧ x.v.kd ≤ 3) ∨ ((x.kind == 1) = false ∧ (x.kind == 2) = true ∧ 0 ≤ x.field ∧ (x.v.kd == 0) = true) ∨ ((x.kind == 1) = false ∧ (x.kind == 2) = true ∧ 0 ≤ x.field ∧ (x.v.kd == 0) = false ∧ (x.v.kd == 3) = true) ∨
    ((x.kind == 1) = false ∧ (x.kind == 2) = false ∧ (x.kind == 3) = true ∧ 0 ≤ x.field ∧ (x.v.kd == 0) = true) ∨ ((x.kind == 1) = false ∧ (x.kind == 2) = false ∧ (x.kind == 3) = true ∧ 0 ≤ x.field ∧ (x.v.kd == 0) = false ∧ (x.v.kd == 3) = true))) ∨
    (mayB x = false ∧ (((x.kind == 1) = true ∧ x.obj < 0) ∨ ((x.kind == 1) = true ∧ 0 ≤ x.obj ∧ x.field < 0) ∨ ((x.kind == 1) = true ∧ 0 ≤ x.obj ∧ 0 ≤ x.field ∧ x.v.kd < 0) ∨ ((x.kind == 1) = true ∧ 0 ≤ x.obj ∧ 0 ≤ x.field ∧ 0 ≤ x.v.kd ∧ decide (x.v.kd ≤ 3) = false) ∨
      ((x.kind == 1) = false ∧ (x.kind == 2) = true ∧ x.field < 0) ∨ ((x.kind == 1) = false ∧ (x.kind == 2) = true ∧ 0 ≤ x.field ∧ (x.v.kd == 0) = false ∧ (x.v.kd == 3) = false) ∨
      ((x.kind == 1) = false ∧ (x.kind == 2) = false ∧ (x.kind == 3) = true ∧ x.field < 0) ∨ ((x.kind == 1) = false ∧ (x.kind == 2) = false ∧ (x.kind == 3) = true ∧ 0 ≤ x.field ∧ (x.v.kd == 0) = false ∧ (x.v.kd == 3) = false) ∨
      ((x.kind == 1) = false ∧ (x.kind == 2) = false ∧ (x.kind == 3) = false))) := by
  have hd : ∀ {p : Prop} [Decidable p], ¬ p → decide p = false := fun h => decide_eq_false h
  unfold mayB
  cases e1 : (x.kind == 1)
  · cases e2 : (x.kind == 2)
    · cases e3 : (x.kind == 3)
      · right; simp
      · by_cases h1 : 0 ≤ x.field
        · cases e4 : (x.v.kd == 0)
          · cases e5 : (x.v.kd == 3)
            · right; simp [h1]
            · left; simp [h1]
          · left; simp [h1]
        · right; refine ⟨by simp [h1], ?_⟩; simp; omega
    · by_cases h1 : 0 ≤ x.field
      · cases e4 : (x.v.kd == 0)
        · cases e5 : (x.v.kd == 3)
          · right; simp [h1]
          · left; simp [h1]
        · left; simp [h1]
      · right; refine ⟨by simp [h1], ?_⟩; simp; omega
  · by_cases h1 : 0 ≤ x.obj
    · by_cases h2 : 0 ≤ x.field
      · by_cases h3 : 0 ≤ x.v.kd
        · by_cases h4 : x.v.kd ≤ 3
          · left; simp [h1, h2, h3, h4]
          · right; refine ⟨by simp [h4], ?_⟩; simp; omega
        · right; refine ⟨by simp [h3], ?_⟩; simp; omega
      · right; refine ⟨by simp [h2], ?_⟩; simp; omega
    · right; refine ⟨by simp [h1], ?_⟩; simp; omega
set_option maxHeartbeats 2000000 in
theorem may_any (x : W8) (w : World) : Calls Try.prog 25 #[agg8 x] w (BoolPost (mayB x) w) := by
  have hc := may_cases x
  obtain ⟨f0, f1, f2, ⟨f3, f4, f5, f6, f7⟩⟩ := x
  unfold agg8
  dsimp only at hc ⊢
  obtain ⟨b, hb⟩ : ∃ b, mayB ⟨f0, f1, f2, ⟨f3, f4, f5, f6, f7⟩⟩ = b := ⟨_, rfl⟩
  rw [hb] at hc ⊢
  clear hb
  have HB := Lib.hid (((Below.refl w.heap.size w).alloc (Nat.le_refl _) (.cells #[.int .i64 f0, .int .i64 f1, .int .i64 f2, .int .i64 f3, .int .i64 f4, .int .u64 f5, .int .u64 f6, .int .i64 f7] 31)))
  rcases hc with ⟨rfl, hc⟩ | ⟨rfl, hc⟩
  · rcases hc with ⟨e1, h1, h2, h3, h4⟩ | ⟨e1, e2, h1, e3⟩ | ⟨e1, e2, h1, e3, e4⟩ | ⟨e1, e2, e5, h1, e3⟩ | ⟨e1, e2, e5, h1, e3, e4⟩
    all_goals
      go_enter Try.func25, Try.ntmps25
      go_wp2
      go_ret
      exact ⟨rfl, HB.out⟩
  · rcases hc with ⟨e1, h1⟩ | ⟨e1, h1, h2⟩ | ⟨e1, h1, h2, h3⟩ | ⟨e1, h1, h2, h3, h4⟩ | ⟨e1, e2, h1⟩ | ⟨e1, e2, h1, e3, e4⟩ | ⟨e1, e2, e3, h1⟩ | ⟨e1, e2, e5, h1, e3, e4⟩ | ⟨e1, e2, e3⟩
    all_goals
      go_enter Try.func25, Try.ntmps25
      go_wp2
      go_ret
      exact ⟨rfl, HB.out⟩
theorem match_t : ∀ a b c d : Bool, (a && b && (c || d)) = true → (a = true ∧ b = true ∧ c = true) ∨ (a = true ∧ b = true ∧ c = false ∧ d = true) := by decide
theorem match_f : ∀ a b c d : Bool, (a && b && (c || d)) = false → a = false ∨ (a = true ∧ b = false) ∨ (a = true ∧ b = true ∧ c = false ∧ d = false) := by decide
theorem fi_found {k o f : Int} {l : List W8} {i : Nat} (hi : i < l.length) (hm : matchP k o f (l.getD i z8) = true) (hno : ∀ j, j < i → matchP k o f (l.getD j z8) = false) : fi k o f l = (i : Int) := by
  have h : l.findIdx (matchP k o f) = i := by
    rw [List.findIdx_eq hi]
    refine ⟨?_, fun j hj => ?_⟩
    · rw [List.getD_eq_getElem?_getD, List.getElem?_eq_getElem hi] at hm; exact hm
    · have := hno j hj
      rw [List.getD_eq_getElem?_getD, List.getElem?_eq_getElem (by omega)] at this
      exact this
  unfold fi
  rw [h, if_pos hi]
theorem fi_none {k o f : Int} {l : List W8} (hno : ∀ j, j < l.length → matchP k o f (l.getD j z8) = false) : fi k o f l = -1 := by
  unfold fi
  rw [if_neg]
  intro h
  have := List.findIdx_getElem (w := h)
  have h2 := hno _ h
  rw [List.getD_eq_getElem?_getD, List.getElem?_eq_getElem h] at h2
  simp [this] at h2
def mu (a : Act) (_ : World) : Nat := 65 - (intOf (a.tmps.getD 9 undef)).toNat
def J (g : Nat) (k o f : Int) (l : List W8) (w : World) (a' : Act) (w' : World) : Prop := ∃ i : Nat, i ≤ l.length ∧ (∀ j, j < i → matchP k o f (l.getD j z8) = false) ∧ Below w.heap.size w w' ∧
  ∃ u4 u5 u6 u7 u10 u11 u12 u13 u14 u15 u16 u17 u18 u19 u20 u21 u22 u23 u24 u25 u26 u27 u28 u29 u30 u31 u32 u33 u34 u35 u36 u37 u38 u39 u40 u41 u42 u43 u44 u45 u46 u47 u48 u49 : Value, a' = ⟨#[.pointer (some ⟨g, 0, none⟩), .int .i64 k, .int .i64 o, .int .i64 f, u4, u5, u6, u7, .int .i64 0, .int .i64 (i : Int), u10, u11, u12, u13, u14, u15, u16, u17, u18, u19, u20, u21, u22, u23, u24, u25, u26, u27, u28, u29, u30, u31, u32, u33, u34, u35, u36, u37, u38, u39, u40, u41, u42, u43, u44, u45, u46, u47, u48, u49], []⟩
def IntPost (n : Int) (w : World) (e : Ending) (w' : World) : Prop := e = .returned (.int .i64 n) ∧ Below w.heap.size w w'
theorem find_nil (k o f : Int) (w : World) : Calls Try.prog 27 #[.pointer none, .int .i64 k, .int .i64 o, .int .i64 f] w fun e w' => e = .returned (.int .i64 (-1)) ∧ w = w' := by
  go_enter Try.func27, Try.ntmps27
  go_wp2
  refine Sc.wp_scope_here 0 (fun _ _ => False) (fun _ _ => 0) rfl (fun _ _ h => h.elim) ?_
  intro _
  go_wp2
  simp only [Exit.jump]
  go_ret
  exact ⟨rfl, rfl⟩
set_option maxHeartbeats 4000000 in
theorem find_any (B g : Nat) (v : Value) (l : List W8) (k o f : Int) (w : World) (hf : Bf w B g v l) : Calls Try.prog 27 #[.pointer (some ⟨g, 0, none⟩), .int .i64 k, .int .i64 o, .int .i64 f] w (IntPost (fi k o f l) w) := by
  have h64 := hf.2.2.2
  have hc0 := hf.cell
  obtain ⟨A, c, rfl, hlc, hC⟩ := hf.2.1.reads
  have HC := Lib.hid hC
  have HF := Lib.hid hf
  clear hC hf
  go_enter Try.func27, Try.ntmps27
  go_wp2
  refine Sc.wp_scope_here 0 (J g k o f l w) mu rfl ?_ ?_
  · rintro a' w' ⟨i, hi, hno, hb, u4, u5, u6, u7, u10, u11, u12, u13, u14, u15, u16, u17, u18, u19, u20, u21, u22, u23, u24, u25, u26, u27, u28, u29, u30, u31, u32, u33, u34, u35, u36, u37, u38, u39, u40, u41, u42, u43, u44, u45, u46, u47, u48, u49, rfl⟩
    have HNO := Lib.hid hno
    have hc1 := cell_old hc0 hb.block
    have hsz := hb.size
    clear hno
    by_cases hlt : i < l.length
    · obtain ⟨ad, rfl, hc⟩ := at_W8 (Kd.C_below HC.out hb) i hlt
      have HM : Hid (matchP k o f (l.getD i z8) = true → fi k o f l = (i : Int)) := Lib.hid (fun h => fi_found hlt h HNO.out)
      have HN : Hid (matchP k o f (l.getD i z8) = false → ∀ j, j < i + 1 → matchP k o f (l.getD j z8) = false) := Lib.hid (fun h j hj => by
        by_cases e : j = i
        · subst e; exact h
        · exact HNO.out j (by omega))
      obtain ⟨x, hx⟩ : ∃ x, l.getD i z8 = x := ⟨_, rfl⟩
      rw [hx] at hc HM HN
      clear hx
      obtain ⟨q0, q1, q2, q3, q4, q5, q6, q7⟩ := hc
      obtain ⟨f0, f1, f2, ⟨f3, f4, f5, f6, f7⟩⟩ := x
      dsimp only at q0 q1 q2 q3 q4 q5 q6 q7
      have hb1 := hb.alloc hb.size (.cells #[.int .i64 f0, .int .i64 f1, .int .i64 f2, .int .i64 f3, .int .i64 f4, .int .u64 f5, .int .u64 f6, .int .i64 f7] 31)
      have e0 : ((i : Int) == (l.length : Int)) = false := by rw [beq_eq_false_iff_ne]; omega
      cases em : matchP k o f ⟨f0, f1, f2, ⟨f3, f4, f5, f6, f7⟩⟩
      · have HN := Lib.hid (HN.out em)
        have ec := match_f (f0 == k) (f2 == f) (k != 1) (f1 == o) em
        clear em HM hb
        rcases ec with e1 | ⟨e1, e2⟩ | ⟨e1, e2, e3, e4⟩
        all_goals
          go_wp2
          go_step3
          try simp only [Exit.then]
          refine ⟨rfl, ⟨i + 1, by omega, HN.out, hb1, _, _, _, _, _, _, _, _, _, _, _, _, _, _, _, _, _, _, _, _, _, _, _, _, _, _, _, _, _, _, _, _, _, _, _, _, _, _, _, _, _, _, _, _, rfl⟩, ?_⟩
          simp [mu, intOf]; omega
      · have HM := Lib.hid (HM.out em)
        have ec := match_t (f0 == k) (f2 == f) (k != 1) (f1 == o) em
        clear em HN hb
        rcases ec with ⟨e1, e2, e3⟩ | ⟨e1, e2, e3, e4⟩
        all_goals
          go_wp2
          simp only [Exit.jump]
          go_ret
          rw [HM.out]
          exact ⟨rfl, hb1⟩
    · obtain rfl : i = l.length := by omega
      have HM := Lib.hid (fi_none (k := k) (o := o) (f := f) HNO.out)
      go_wp2
      simp only [Exit.jump]
      go_ret
      rw [HM.out]
      exact ⟨rfl, hb⟩
  · intro hp
    go_wp2
    go_step3
    rename_i K hK
    refine hK _ _ (hp _ _ ⟨0, by omega, fun j hj => by omega, Below.refl _ _, ?_⟩)
    exact ⟨_, _, _, _, _, _, _, _, _, _, _, _, _, _, _, _, _, _, _, _, _, _, _, _, _, _, _, _, _, _, _, _, _, _, _, _, _, _, _, _, _, _, _, _, rfl⟩
def AllPost (l : List W8) (w : World) (e : Ending) (w' : World) : Prop := ∃ v, e = .returned v ∧ R8 w' w.heap.size v l ∧ Below w.heap.size w w'
theorem clone_any (B : Nat) (v : Value) (l : List W8) (w : World) (h : R8 w B v l) (hl : l.length ≤ 1000) : Calls Try.prog 28 #[v] w (AllPost l w) := by
  obtain ⟨inner, ho⟩ := Kd.R_own h
  rcases ho.2 with ⟨rfl, h0⟩ | ⟨g, cap, cur, rfl, _, _, _⟩
  · obtain rfl : l = [] := List.eq_nil_of_length_eq_zero h0
    clear ho h h0
    have ke : ∀ W : World, (binOp .eql 32 (.slice none 0 0) (.slice none 0 0)).run Try.prog W = .ok (.bool true) W := fun W => by rfl
    go_enter Try.func28, Try.ntmps28
    go_wp2
    go_ret
    exact ⟨_, rfl, R8.nil _ _, Below.refl _ _⟩
  · obtain ⟨A, c, e, hlc, hC⟩ := h.reads
    injection e with e1 _ e2
    subst e1 e2
    have hb := (Below.refl w.heap.size w).alloc (Nat.le_refl _) (.cells #[] 31)
    have HC := Lib.hid (Kd.C_below hC hb)
    have hL0 := Lib.hid (R8.lit0 w w.heap.size (Nat.le_refl _))
    clear ho h hC
    have ke : ∀ W : World, (binOp .eql 32 (.slice (some ⟨g, 0, none⟩) l.length cap) (.slice none 0 0)).run Try.prog W = .ok (.bool false) W := fun W => by rfl
    go_enter Try.func28, Try.ntmps28
    go_wp2_with (at_builtin; refine Kd.R_append_rows (P := Try.prog) k8 (w0 := w) (Rr := k8.K _) w.heap.size rfl (.tmp 5) (.tmp 6) 32 31 zW 64 rfl Try.underlying32 infoW rfl (by decide) (by decide) _ [] l (some ⟨g, 0, none⟩) l.length cap (fun _ => True) (fun _ => False) rfl rfl hL0.out HC.out (fun _ _ h => k8_KM h) (fun _ h => h.elim) (fun _ _ => trivial) hb hb.size ?c1 ?_)
    case c1 => first | omega | (simp; omega)
    intro v3 w3 hr3 hb3 _ _
    have HR : Hid (R8 w3 w.heap.size v3 l) := Lib.hid hr3
    clear hr3 hb hL0
    go_wp2
    go_ret
    exact ⟨_, rfl, HR.out, hb3⟩
theorem all_any (B g : Nat) (v : Value) (l : List W8) (w : World) (h : Bf w B g v l) : Calls Try.prog 12 #[.pointer (some ⟨g, 0, none⟩)] w (AllPost l w) := by
  have hc := h.cell
  have h64 := h.2.2.2
  have HR := Lib.hid h.2.1
  clear h
  go_enter Try.func12, Try.ntmps12
  go_wp2_with fail
  refine (clone_any B v l w HR.out (by omega)).mono ?_
  rintro e w1 ⟨v1, rfl, hr, hb⟩
  have HR1 := Lib.hid hr
  clear hr
  go_wp2
  go_ret
  exact ⟨_, rfl, HR1.out, hb⟩
theorem all_nil (w : World) : Calls Try.prog 12 #[.pointer none] w fun e w' => e = .returned (.slice none 0 0) ∧ w = w' := by
  go_enter Try.func12, Try.ntmps12
  go_wp2
  go_ret
  exact ⟨rfl, rfl⟩
theorem len_any (B g : Nat) (v : Value) (l : List W8) (w : World) (h : Bf w B g v l) : Calls Try.prog 13 #[.pointer (some ⟨g, 0, none⟩)] w (IntPost (l.length : Int) w) := by
  have HF := Lib.hid h
  clear h
  go_enter Try.func13, Try.ntmps13
  go_wp2_with fail
  refine (all_any B g v l w HF.out).mono ?_
  rintro e w1 ⟨v1, rfl, hr, hb⟩
  obtain ⟨A, c, rfl, _, _⟩ := hr.reads
  clear hr
  go_wp2
  go_ret
  exact ⟨rfl, hb⟩
theorem len_nil (w : World) : Calls Try.prog 13 #[.pointer none] w fun e w' => e = .returned (.int .i64 0) ∧ w = w' := by
  go_enter Try.func13, Try.ntmps13
  go_wp2_with fail
  refine (all_nil w).mono ?_
  rintro e w1 ⟨rfl, rfl⟩
  go_wp2
  go_ret
  exact ⟨rfl, rfl⟩
theorem clear_any (B g : Nat) (v : Value) (l : List W8) (w : World) (h : Bf w B g v l) : Calls Try.prog 16 #[.pointer (some ⟨g, 0, none⟩)] w fun e w' => e = .returned (.tuple #[]) ∧ Bf w' B g (.slice none 0 0) [] ∧ Kp w w' g v := by
  have hc := h.cell
  have hz := h.free
  obtain ⟨A, c, rfl, _, _⟩ := h.2.1.reads
  have HB : Hid (Bf (w.setCell ⟨g, 0, none⟩ (.slice none 0 0)) B g (.slice none 0 0) []) := Lib.hid ⟨one_setCell h.1, R8.nil _ _, h.2.2.1, by simp⟩
  have HK := Lib.hid (Kp.of_grown_g (grown_set w g 0 (.slice none 0 0)) (.slice A l.length c))
  clear h
  go_enter Try.func16, Try.ntmps16
  go_wp2
  go_end0
  exact ⟨rfl, HB.out, HK.out⟩
theorem clear_nil (w : World) : Calls Try.prog 16 #[.pointer none] w fun e w' => e = .returned (.tuple #[]) ∧ w = w' := by
  go_enter Try.func16, Try.ntmps16
  go_wp2
  go_end0
  exact ⟨rfl, rfl⟩
theorem Bx5.there0 {w : World} {g : Nat} {x : V5} (h : Bx5 w g x) : w.there g 0 5 := by
  intro j hj
  refine ⟨?_, blk_frozen h _⟩
  rw [cell_of_row w g _ _ 28 (0, 0) h]
  have : j = 0 ∨ j = 1 ∨ j = 2 ∨ j = 3 ∨ j = 4 := by omega
  rcases this with rfl | rfl | rfl | rfl | rfl <;> rfl
theorem Bx5.store {w : World} {g : Nat} {x : V5} (h : Bx5 w g x) (r : V5) : ∃ w2, w.setCells g 0 r.cs = w2 ∧ Bx5 w2 g r ∧ w.grownBy w2 (some g) := by
  refine ⟨_, rfl, ?_, ?_⟩
  · obtain ⟨cur', h3, h4, h5⟩ := setCells_row r.cs 0 w _ h (by simp [V5.cs])
    unfold Bx5
    rw [h3]
    have : cur'.toList = r.cs := by
      have e : cur'.toList = cur'.toList.take (0 + r.cs.length) := (List.take_of_length_le (by rw [Array.length_toList, h4]; simp [V5.cs])).symm
      rw [e, h5]
      rfl
    have : cur' = r.cs.toArray := by rw [← this]
    rw [this]
    rfl
  · obtain ⟨s1, s2, s3, s4⟩ := setCells_same g r.cs 0 w
    exact ⟨s1, s2, s3, by rw [s4]; exact Nat.le_refl _, fun k _ hk => setCells_far r.cs _ k (fun he => hk (by rw [he]))⟩
/-- What is found at a place. -/
def fv (k o f : Int) (l : List W8) : V5 := if l.findIdx (matchP k o f) < l.length then (l.getD (l.findIdx (matchP k o f)) z8).v else z5
def fb (k o f : Int) (l : List W8) : Bool := decide (l.findIdx (matchP k o f) < l.length)
def FindPost (v : V5) (b : Bool) (w : World) (e : Ending) (w' : World) : Prop := e = .returned (.tuple #[agg5 v, .bool b]) ∧ Below w.heap.size w w'
theorem find2_nil (k o f : Int) (w : World) : Calls Try.prog 18 #[.pointer none, .int .i64 k, .int .i64 o, .int .i64 f] w (FindPost z5 false w) := by
  have hz : ∀ w, (zeroValue 28).run Try.prog w = .ok (.agg #[.int .i64 0, .int .i64 0, .int .u64 0, .int .u64 0, .int .i64 0]) w := fun w => by kernel_rfl
  go_enter Try.func18, Try.ntmps18
  go_wp2_with fail
  refine (find_nil k o f _).mono ?_
  rintro e w1 ⟨rfl, rfl⟩
  go_wp2
  exact bodyPost_ret (v := .tuple #[agg5 z5, .bool false]) (by simp [results, Try.results18, go_sem, agg5, z5]) rfl ⟨rfl, (Below.refl _ _).alloc (Nat.le_refl _) _⟩
set_option maxHeartbeats 2000000 in
theorem find2_any (B g : Nat) (v : Value) (l : List W8) (k o f : Int) (w : World) (h : Bf w B g v l) : Calls Try.prog 18 #[.pointer (some ⟨g, 0, none⟩), .int .i64 k, .int .i64 o, .int .i64 f] w (FindPost (fv k o f l) (fb k o f l) w) := by
  have hz : ∀ w, (zeroValue 28).run Try.prog w = .ok (.agg #[.int .i64 0, .int .i64 0, .int .u64 0, .int .u64 0, .int .i64 0]) w := fun w => by kernel_rfl
  have hb0 := (Below.refl w.heap.size w).alloc (Nat.le_refl _) (.cells #[.int .i64 0, .int .i64 0, .int .u64 0, .int .u64 0, .int .i64 0] 28)
  have HF := Lib.hid (h.later hb0)
  have HX : Hid (Bx5 (w.alloc (.cells #[.int .i64 0, .int .i64 0, .int .u64 0, .int .u64 0, .int .i64 0] 28)) w.heap.size z5) := Lib.hid (heap_alloc_new w _)
  have h64 := h.2.2.2
  clear h
  go_enter Try.func18, Try.ntmps18
  go_wp2_with fail
  refine (find_any B g v l k o f _ HF.out).mono ?_
  rintro e w1 ⟨rfl, hb1⟩
  have hx1 := HX.out.below hb1 (by rw [size_al]; omega)
  have hb2 := hb0.trans (hb1.mono hb0.size)
  have HF1 := HF.out.later hb1
  have HTH := Lib.hid (Bx5.there0 hx1)
  have hc1 := HF1.cell
  obtain ⟨A, c, rfl, hlc, hC⟩ := HF1.2.1.reads
  have HC := Lib.hid hC
  clear HF HF1 HX hb0 hb1 hC
  by_cases hi : l.findIdx (matchP k o f) < l.length
  · have e1 : fi k o f l = (l.findIdx (matchP k o f) : Int) := by unfold fi; rw [if_pos hi]
    have e2 : fv k o f l = (l.getD (l.findIdx (matchP k o f)) z8).v := by unfold fv; rw [if_pos hi]
    have e3 : fb k o f l = true := decide_eq_true hi
    rw [e1]
    have E2 := Lib.hid e2
    have E3 := Lib.hid e3
    obtain ⟨i, hii⟩ : ∃ i, l.findIdx (matchP k o f) = i := ⟨_, rfl⟩
    rw [hii] at hi E2 ⊢
    clear hii e1 e2 e3
    obtain ⟨ad, rfl, hc⟩ := at_W8 HC.out i hi
    obtain ⟨x, hx⟩ : ∃ x, l.getD i z8 = x := ⟨_, rfl⟩
    rw [hx] at hc E2
    clear hx
    obtain ⟨q0, q1, q2, q3, q4, q5, q6, q7⟩ := hc
    obtain ⟨f0, f1, f2, ⟨f3, f4, f5, f6, f7⟩⟩ := x
    dsimp only at q3 q4 q5 q6 q7 E2
    obtain ⟨w2, hw2, hx2, hg2⟩ := Bx5.store hx1 ⟨f3, f4, f5, f6, f7⟩
    have HW2 := Lib.hid hw2
    obtain ⟨p0, p1, p2, p3, p4⟩ := hx2.cells
    have hb3 := hb2.grown hg2 hb2.size (fun k hk => by injection hk with hk; omega)
    clear hw2 hx2 hg2 hx1 hb2 q0 q1 q2
    go_wp2_with (refine store_named (P := Try.prog) rfl 28 (.tmp 8) (.tmp 26) rfl w.heap.size 0 #[.int .i64 f3, .int .i64 f4, .int .u64 f5, .int .u64 f6, .int .i64 f7] rfl rfl HTH.out infoV (one5 _ _ _ _ _) HW2.out ?_)
    refine bodyPost_ret (v := .tuple #[agg5 ⟨f3, f4, f5, f6, f7⟩, .bool true]) (by simp [results, Try.results18, go_sem, agg5, p0, p1, p2, p3, p4]) rfl ⟨by rw [E2.out, E3.out], hb3⟩
  · have e1 : fi k o f l = -1 := by unfold fi; rw [if_neg hi]
    have E2 := Lib.hid (show fv k o f l = z5 by unfold fv; rw [if_neg hi])
    have E3 := Lib.hid (show fb k o f l = false from decide_eq_false hi)
    rw [e1]
    obtain ⟨w2, hw2, hx2, hg2⟩ := Bx5.store hx1 z5
    have HW2 := Lib.hid hw2
    obtain ⟨p0, p1, p2, p3, p4⟩ := Bx5.cells (a := 0) (b := 0) (c := 0) (d := 0) (e := 0) hx2
    have hb3 := hb2.grown hg2 hb2.size (fun k hk => by injection hk with hk; omega)
    clear hw2 hx2 hg2 hx1 hb2 e1 hi
    go_wp2_with (refine store_named (P := Try.prog) rfl 28 (.tmp 8) (.tmp 18) rfl w.heap.size 0 #[.int .i64 0, .int .i64 0, .int .u64 0, .int .u64 0, .int .i64 0] rfl rfl HTH.out infoV (one5 _ _ _ _ _) HW2.out ?_)
    refine bodyPost_ret (v := .tuple #[agg5 z5, .bool false]) (by simp [results, Try.results18, go_sem, agg5, z5, p0, p1, p2, p3, p4]) rfl ⟨by rw [E2.out, E3.out], hb3⟩
theorem R8.set {w : World} {base b n cap : Nat} {l : List W8} (h : R8 w base (.slice (some ⟨b, 0, none⟩) n cap) l) (i : Nat) (hi : i < l.length) (x : W8) : R8 (w.setCells b (i * 8) x.cs) base (.slice (some ⟨b, 0, none⟩) n cap) (l.set i x) ∧ w.grownBy (w.setCells b (i * 8) x.cs) (some b) := by
  have hn := (Kd.R_reads' h).1
  obtain ⟨ad, c, e, hcl, hK, hc⟩ := Kd.C_get (Kd.R_reads' h).2.2 z8 (i : Int) (by omega) (by omega)
  injection e with e
  subst e
  rw [Int.toNat_natCast] at hc hK
  have hcl8 : c.length = 8 := hcl
  have hx8 : x.cs.length = 8 := rfl
  have := Kd.R_seg (d := k8) (okp := fun _ => False) h (i : Int) (by omega) (by omega) hcl (j := 0) (seg := x.cs) (x' := x) (c := c) (fun j u hu => by
    have := hc j u hu
    rw [Int.toNat_natCast]
    have e2 : (⟨b, 0, none⟩ : Addr).add (i * k8.sz + j) = ⟨b, i * k8.sz + j, none⟩ := add_plain _ _
    rw [e2] at this
    exact this) (by rw [hx8]; decide) (by
      rw [List.take_zero, List.nil_append, hx8, List.drop_of_length_le (by omega), List.append_nil]
      exact k8_M _ _ _ x) (fun k hk => hk.elim)
  rw [Int.toNat_natCast] at this
  exact this
theorem R8.there {w : World} {base b n cap : Nat} {l : List W8} (h : R8 w base (.slice (some ⟨b, 0, none⟩) n cap) l) (i : Nat) (hi : i < l.length) : w.there b (i * 8) 8 := by
  obtain ⟨inner, ho⟩ := Kd.R_own h
  rcases ho.2 with ⟨he, _⟩ | ⟨g, cap', cur, he, _, hh, hnc, _, hcs, _⟩
  · cases he
  · injection he with he _ hc
    injection he with he
    injection he with he
    subst he hc
    intro j hj
    refine ⟨?_, blk_frozen hh _⟩
    rw [cell_of_row w b _ cur 31 (0, 0) hh]
    have h1 : cur.size = cap * 8 := hcs
    have h2 : l.length ≤ cap := hnc
    have : i * 8 + j < cur.size := by omega
    simp [this]
theorem R8.form {w : World} {base : Nat} {v : Value} {l : List W8} (h : R8 w base v l) (hl : 0 < l.length) : ∃ b cap, v = .slice (some ⟨b, 0, none⟩) l.length cap ∧ base ≤ b ∧ b < w.heap.size := by
  obtain ⟨g, cap, e, h1, h2, _⟩ := Kd.R_form h hl
  exact ⟨g, cap, e, h1, h2⟩
theorem Bx8.range {w : World} {g : Nat} {x : W8} (h : Bx8 w g x) : w.rangeAt g 0 x.cs := by
  intro j v hv
  rw [Nat.zero_add, cell_of_row w g _ _ 31 (0, 0) h, ← hv]
  simp [W8.cs]
structure OneG (W : World) (g : Nat) (v : Value) : Prop where
  cell : W.cell? ⟨g, 0, none⟩ = some v
  free : W.frozen? ⟨g, 0, none⟩ = false
  heap : W.heap[g]? = some (.cells #[v] 54 (0, 0))
theorem app_keep {W w5 : World} {B g : Nat} {v v1 : Value} {l l' : List W8} (hf : Bf W B g v l) (_hr : k8.R 31 w5 B (fun _ => True) v1 l') (hg : W.grownBy w5 v.ownBlock) : OneG w5 g v := by
  have h := (hg.block g hf.lt (fun e => hf.ne e.symm)).trans hf.1
  exact ⟨cell_of_one h, free_of_one h, h⟩
theorem app_box {W w5 : World} {B g gb : Nat} {v : Value} {l : List W8} {x : W8} (hf : Bf W B g v l) (hx : Bx8 W gb x) (hg : W.grownBy w5 v.ownBlock) (hne : ∀ b, v.ownBlock = some b → b ≠ gb) : Bx8 w5 gb x :=
  (hg.block gb (Array.getElem?_eq_some_iff.1 hx).1 (fun e => hne gb e.symm rfl)).trans hx
theorem app_done {W w5 : World} {B g : Nat} {v v9 : Value} {l l' : List W8} (hf : Bf W B g v l) (hr : k8.R 31 w5 B (fun _ => True) v9 (l ++ l')) (h1 : OneG w5 g v) (hl : l.length < 64) (hl' : l'.length = 1 := by rfl) : Bf (w5.setCell ⟨g, 0, none⟩ v9) B g v9 (l ++ l') := by
  refine ⟨one_setCell h1.heap, ?_, hf.2.2.1, by rw [List.length_append, hl']; omega⟩
  refine R8.move hr fun k hk => Below.heap_setCell w5 _ _ k fun e => ?_
  obtain ⟨inner, ho⟩ := Kd.R_own hr
  obtain ⟨cs, hc⟩ := own_typed ho k hk
  have h := h1.heap
  rw [show g = k from e.symm, hc] at h
  injection h with h
  injection h with _ h
  cases h
def PutPost (B g : Nat) (v : Value) (l : List W8) (x : W8) (w : World) (e : Ending) (w' : World) : Prop := e = .returned (.int .i64 (putE l x)) ∧ ∃ v', Bf w' B g v' (putL l x) ∧ Kp w w' g v ∧ (v'.ownBlock = v.ownBlock ∨ ∃ b, v'.ownBlock = some b ∧ w.heap.size ≤ b)
theorem put_nil (x : W8) (w : World) : Calls Try.prog 10 #[.pointer none, agg8 x] w (IntPost 1 w) := by
  obtain ⟨f0, f1, f2, ⟨f3, f4, f5, f6, f7⟩⟩ := x
  unfold agg8
  dsimp only
  have hb := (Below.refl w.heap.size w).alloc (Nat.le_refl _) (.cells #[.int .i64 f0, .int .i64 f1, .int .i64 f2, .int .i64 f3, .int .i64 f4, .int .u64 f5, .int .u64 f6, .int .i64 f7] 31)
  go_enter Try.func10, Try.ntmps10
  go_wp2
  go_ret
  exact ⟨rfl, hb⟩
set_option maxHeartbeats 8000000 in
set_option maxRecDepth 20000 in
theorem put_any (B g : Nat) (v : Value) (l : List W8) (x : W8) (w : World) (hf : Bf w B g v l) : Calls Try.prog 10 #[.pointer (some ⟨g, 0, none⟩), agg8 x] w (PutPost B g v l x w) := by
  have h64 := hf.2.2.2
  have HF := Lib.hid hf
  have hgl := hf.lt
  obtain ⟨b, hb⟩ : ∃ b, mayB x = b := ⟨_, rfl⟩
  have hbx := hb
  obtain ⟨f0, f1, f2, ⟨f3, f4, f5, f6, f7⟩⟩ := x
  unfold agg8
  dsimp only
  have hb0 := (Below.refl w.heap.size w).alloc (Nat.le_refl _) (.cells #[.int .i64 f0, .int .i64 f1, .int .i64 f2, .int .i64 f3, .int .i64 f4, .int .u64 f5, .int .u64 f6, .int .i64 f7] 31)
  have HX0 : Hid (Bx8 (w.alloc (.cells #[.int .i64 f0, .int .i64 f1, .int .i64 f2, .int .i64 f3, .int .i64 f4, .int .u64 f5, .int .u64 f6, .int .i64 f7] 31)) w.heap.size ⟨f0, f1, f2, ⟨f3, f4, f5, f6, f7⟩⟩) := Lib.hid (heap_alloc_new w _)
  have HM := Lib.hid hb
  have HMA := Lib.hid (may_any ⟨f0, f1, f2, ⟨f3, f4, f5, f6, f7⟩⟩ (w.alloc (.cells #[.int .i64 f0, .int .i64 f1, .int .i64 f2, .int .i64 f3, .int .i64 f4, .int .u64 f5, .int .u64 f6, .int .i64 f7] 31)))
  rw [hb] at HMA
  clear hf hb hbx
  cases b
  · go_enter Try.func10, Try.ntmps10
    go_wp2_with fail
    refine HMA.out.mono ?_
    rintro e w1 ⟨rfl, hb1⟩
    have hb2 := hb0.trans (hb1.mono hb0.size)
    have HE : Hid (putE l ⟨f0, f1, f2, ⟨f3, f4, f5, f6, f7⟩⟩ = 1) := Lib.hid (by unfold putE; rw [HM.out]; rfl)
    have HL : Hid (putL l ⟨f0, f1, f2, ⟨f3, f4, f5, f6, f7⟩⟩ = l) := Lib.hid (by unfold putL; rw [HM.out]; rfl)
    clear hb0 hb1 HMA
    go_wp2
    go_ret
    refine ⟨by rw [HE.out]; rfl, v, ?_, Kp.of_below hb2 _ _, .inl rfl⟩
    rw [HL.out]
    exact HF.out.later hb2
  · have HE : Hid (putE l ⟨f0, f1, f2, ⟨f3, f4, f5, f6, f7⟩⟩ = (if l.findIdx (mN ⟨f0, f1, f2, ⟨f3, f4, f5, f6, f7⟩⟩) < l.length then 0 else if l.length = 64 then 9 else 0)) := Lib.hid (by unfold putE; rw [HM.out]; rfl)
    have HL : Hid (putL l ⟨f0, f1, f2, ⟨f3, f4, f5, f6, f7⟩⟩ = (if l.findIdx (mN ⟨f0, f1, f2, ⟨f3, f4, f5, f6, f7⟩⟩) < l.length then l.set (l.findIdx (mN ⟨f0, f1, f2, ⟨f3, f4, f5, f6, f7⟩⟩)) (norm ⟨f0, f1, f2, ⟨f3, f4, f5, f6, f7⟩⟩) else if l.length = 64 then l else l ++ [norm ⟨f0, f1, f2, ⟨f3, f4, f5, f6, f7⟩⟩])) := Lib.hid (by unfold putL; rw [HM.out]; rfl)
    have HN := Lib.hid (show norm ⟨f0, f1, f2, ⟨f3, f4, f5, f6, f7⟩⟩ = ⟨f0, if (f0 == 1) = true then f1 else 0, f2, told5 ⟨f3, f4, f5, f6, f7⟩⟩ from rfl)
    have HTA := Lib.hid (fun W => told_any ⟨f3, f4, f5, f6, f7⟩ W)
    obtain ⟨r, hr⟩ : ∃ r, told5 ⟨f3, f4, f5, f6, f7⟩ = r := ⟨_, rfl⟩
    unfold ToldPost at HTA
    rw [hr] at HN HTA
    obtain ⟨r0, r1, r2, r3, r4⟩ := r
    clear hr
    have hcase : (f0 == 1) = true ∨ (f0 == 1) = false := by cases (f0 == 1) <;> simp
    go_enter Try.func10, Try.ntmps10
    go_wp2_with fail
    refine HMA.out.mono ?_
    rintro e w1 ⟨rfl, hb1⟩
    have HX1 := HX0.out.below hb1 (by rw [size_al]; omega)
    obtain ⟨p0, p1, p2, p3, p4, p5, p6, p7⟩ := HX1.cells
    have hs1 := hb1.size
    rw [size_al] at hs1
    have hbw1 := hb0.trans (hb1.mono hb0.size)
    have HX1 := Lib.hid HX1
    clear hb0 hb1 HMA HX0
    go_wp2_with fail
    refine (HTA.out _).mono ?_
    rintro e w2 ⟨rfl, hb2⟩
    have hx2 := HX1.out.below hb2 (by omega)
    have hbw2 := hbw1.trans (hb2.mono hbw1.size)
    have hs2 := hb2.size
    have HTH := Lib.hid hx2.there
    obtain ⟨w3, hw3, hx3, hg3⟩ := hx2.store ⟨r0, r1, r2, r3, r4⟩
    have HW3 := Lib.hid hw3
    have hbw3 := hbw2.grown hg3 hbw2.size (fun k hk => by injection hk with hk; omega)
    have hs3 := hg3.size
    have z1 := hx3.frozen 1
    have HX3 := Lib.hid hx3
    obtain ⟨p0, p1, p2, p3, p4, p5, p6, p7⟩ := hx3.cells
    clear hb2 hbw1 hbw2 hx2 hx3 hg3 hw3 HX1 HTA
    unfold agg5
    dsimp only
    rcases hcase with e1 | e1
    · rw [e1, if_pos rfl] at HN
      have HF3 := Lib.hid (HF.out.later hbw3)
      have HBW := Lib.hid hbw3
      have HXX := HX3
      have HLT := Lib.hid (show w.heap.size < w3.heap.size by omega)
      clear hbw3 HX3
      go_wp2_with (refine store_named (P := Try.prog) rfl 28 (.tmp 16) (.tmp 15) rfl w.heap.size 3 #[.int .i64 r0, .int .i64 r1, .int .u64 r2, .int .u64 r3, .int .i64 r4] rfl rfl HTH.out infoV (one5 _ _ _ _ _) HW3.out ?_)
      refine (find_any B g v l f0 f1 f2 _ HF3.out).mono ?_
      rintro e w4 ⟨rfl, hb4⟩
      have hb4 := hb4
      have hbw4 := HBW.out.trans (hb4.mono HBW.out.size)
      have hx4 := HXX.out.below hb4 HLT.out
      have hf4 := HF.out.later hbw4
      have hc4 := hf4.cell
      have hz4 := hf4.free
      have HR4 := Lib.hid (Bx8.range hx4)
      have HF4 := Lib.hid hf4
      have HBW4 := Lib.hid hbw4
      have HMN : Hid (mN ⟨f0, f1, f2, ⟨f3, f4, f5, f6, f7⟩⟩ = matchP f0 f1 f2) := Lib.hid (by funext y; unfold mN; rw [HN.out])
      rw [HMN.out] at HE HL
      rw [HN.out] at HL
      obtain ⟨q0, q1, q2, q3, q4, q5, q6, q7⟩ := hx4.cells
      have HX4 := Lib.hid hx4
      obtain ⟨i, hi⟩ : ∃ i, l.findIdx (matchP f0 f1 f2) = i := ⟨_, rfl⟩
      have HFI := Lib.hid (show fi f0 f1 f2 l = if i < l.length then (i : Int) else -1 by unfold fi; rw [hi])
      rw [HFI.out]
      rw [hi] at HE HL
      clear hi hb4 hbw4 hx4 hf4 p0 p1 p2 p3 p4 p5 p6 p7 z1 HBW HXX HLT HFI HMN
      by_cases hil : i < l.length
      · rw [if_pos hil] at HE HL ⊢
        obtain ⟨bb, cap, rfl, hbb, hbl⟩ := R8.form HF4.out.2.1 (by omega)
        have hd := HBW4.out.drew
        have hfd := HF4.out.later (Below.refl w4.heap.size w4).drew
        have HTB := Lib.hid (R8.there hfd.2.1 i hil)
        have hs := R8.set hfd.2.1 i hil ⟨f0, f1, f2, ⟨r0, r1, r2, r3, r4⟩⟩
        obtain ⟨w5, hw5⟩ : ∃ w5, w4.drew.setCells bb (i * 8) (W8.cs ⟨f0, f1, f2, ⟨r0, r1, r2, r3, r4⟩⟩) = w5 := ⟨_, rfl⟩
        rw [hw5] at hs
        have hne := hfd.ne
        have HB5 : Hid (Bf w5 B g (.slice (some ⟨bb, 0, none⟩) l.length cap) (l.set i ⟨f0, f1, f2, ⟨r0, r1, r2, r3, r4⟩⟩)) := Lib.hid ⟨(hs.2.block g hfd.lt (fun e => hne (by rw [e]; simp [Value.ownBlock]))).trans hfd.1, hs.1, hfd.2.2.1, by rw [List.length_set]; exact h64⟩
        have HK5 : Hid (Kp w w5 g (.slice (some ⟨bb, 0, none⟩) l.length cap)) := Lib.hid ((Kp.of_below hd g _).trans (Kp.of_grown_v (v := .slice (some ⟨bb, 0, none⟩) l.length cap) (by simpa [Value.ownBlock] using hs.2) g) (.inl rfl))
        have HW5 := Lib.hid hw5
        clear hz4 hs hw5 hne hd hfd
        go_wp2
        go_still_tail 7, (by kernel_rfl)
        refine store_named (P := Try.prog) rfl 31 (.tmp 48) (.tmp 47) rfl bb (i * 8) #[.int .i64 f0, .int .i64 f1, .int .i64 f2, .int .i64 r0, .int .i64 r1, .int .u64 r2, .int .u64 r3, .int .i64 r4] rfl rfl HTB.out infoW8 (all_oneCell_toArray (one8 ⟨f0, f1, f2, ⟨r0, r1, r2, r3, r4⟩⟩)) HW5.out ?_
        go_wp2
        go_ret
        refine ⟨by rw [HE.out]; rfl, _, ?_, HK5.out, .inl rfl⟩
        rw [HL.out]
        exact HB5.out
      · rw [if_neg hil] at HE HL ⊢
        by_cases h64' : l.length = 64
        · rw [if_pos h64'] at HE HL
          obtain ⟨A, c, rfl, hlc, _⟩ := HF4.out.2.1.reads
          have e64 : ((l.length : Int) == 64) = true := by rw [h64']; rfl
          go_wp2
          go_ret
          refine ⟨by rw [HE.out]; rfl, _, ?_, Kp.of_below HBW4.out _ _, .inl rfl⟩
          rw [HL.out]
          exact HF4.out
        · rw [if_neg h64'] at HE HL
          obtain ⟨A, c, rfl, hlc, _⟩ := HF4.out.2.1.reads
          have hBw : B ≤ w.heap.size := by have := HF4.out.2.2.1; omega
          have HBB := Lib.hid (HBW4.out.drew.mono hBw)
          have hBs := HBB.out.size
          have hfd := HF4.out.later (Below.refl w4.heap.size w4).drew
          have HFD := Lib.hid hfd
          have hs4 := HBW4.out.size
          have e64 : ((l.length : Int) == 64) = false := by rw [beq_eq_false_iff_ne]; omega
          have hgl4 := HF4.out.lt
          have hBd : B ≤ w4.drew.heap.size := by show B ≤ w4.heap.size; omega
          have HLW := Lib.hid (fun b (hb : (Value.slice A l.length c).ownBlock = some b) => show b ≠ w.heap.size from fun e => by have := (R8.lt HF.out.2.1 b hb).2; omega)
          clear hfd
          go_wp2
          go_region_law ((refine Kd.R_append_step (P := Try.prog) k8 (w0 := w) (W := w4.drew) B (by rfl) (.tmp 33) (.tmp 35) 32 31 zW 64 (by rfl) Try.underlying32 infoW rfl (by decide) (by decide) (.slice A l.length c) l ⟨f0, f1, f2, ⟨r0, r1, r2, r3, r4⟩⟩ _ (fun _ => True) (fun _ => False) (by rfl) (by rfl) (k8_M _ _ _ _) (fun _ h => h.elim) (fun _ _ => trivial) HFD.out.2.1 HBB.out hBd (by omega) ?_; intro v1 w5 hr5 hb5 hg5 hat5; obtain ⟨A9, c9, rfl, _, _⟩ := Kd.R_reads hr5; have hf5 := app_keep HFD.out hr5 hg5; have hcg := hf5.cell; have hzg := hf5.free; obtain ⟨t0, t1, t2, t3, t4, t5, t6, t7⟩ := Bx8.cells (app_box HFD.out HX4.out hg5 HLW.out)))
          all_goals
            simp only [List.length_append, List.length_cons, List.length_nil, Nat.zero_add] at hr5 hat5
            have HB5 := Lib.hid (app_done HFD.out hr5 hf5 (show l.length < 64 by omega))
            have HK5 := Lib.hid (((Kp.of_below HBW4.out.drew g (.slice A l.length c)).trans (Kp.of_grown_v hg5 g) (.inl rfl)).trans (Kp.of_grown_g (grown_set w5 g 0 (.slice A9 (l.length + 1) c9)) (.slice A l.length c)) (.inl rfl))
            have HAT : Hid ((Value.slice A9 (l.length + 1) c9).ownBlock = (Value.slice A l.length c).ownBlock ∨ ∃ b, (Value.slice A9 (l.length + 1) c9).ownBlock = some b ∧ w.heap.size ≤ b) := Lib.hid (by
              rcases hat5 with h | ⟨b, h, h2⟩
              · exact .inl h
              · exact .inr ⟨b, h, Nat.le_trans hBs h2⟩)
            clear hr5 hb5 hg5 hat5 hf5 t0 t1 t2 t3 t4 t5 t6 t7
            go_wp2
            go_ret
            refine ⟨by rw [HE.out]; rfl, _, ?_, HK5.out, HAT.out⟩
            rw [HL.out]
            exact HB5.out
    · rw [e1, if_neg (by decide)] at HN
      have hbw3' := hbw3.setCell (p := ⟨w.heap.size, 1, none⟩) (Nat.le_refl _) (.int .i64 0)
      have HF3 := Lib.hid (HF.out.later hbw3')
      have HBW := Lib.hid hbw3'
      have HXX := Lib.hid (HX3.out.setObj 0)
      have HLT := Lib.hid (show w.heap.size < (w3.setCell ⟨w.heap.size, 1, none⟩ (.int .i64 0)).heap.size by simp; omega)
      clear hbw3 hbw3' HX3
      go_wp2_with (refine store_named (P := Try.prog) rfl 28 (.tmp 16) (.tmp 15) rfl w.heap.size 3 #[.int .i64 r0, .int .i64 r1, .int .u64 r2, .int .u64 r3, .int .i64 r4] rfl rfl HTH.out infoV (one5 _ _ _ _ _) HW3.out ?_)
      refine (find_any B g v l f0 0 f2 _ HF3.out).mono ?_
      rintro e w4 ⟨rfl, hb4⟩
      have hb4 := hb4
      have hbw4 := HBW.out.trans (hb4.mono HBW.out.size)
      have hx4 := HXX.out.below hb4 HLT.out
      have hf4 := HF.out.later hbw4
      have hc4 := hf4.cell
      have hz4 := hf4.free
      have HR4 := Lib.hid (Bx8.range hx4)
      have HF4 := Lib.hid hf4
      have HBW4 := Lib.hid hbw4
      have HMN : Hid (mN ⟨f0, f1, f2, ⟨f3, f4, f5, f6, f7⟩⟩ = matchP f0 0 f2) := Lib.hid (by funext y; unfold mN; rw [HN.out])
      rw [HMN.out] at HE HL
      rw [HN.out] at HL
      obtain ⟨q0, q1, q2, q3, q4, q5, q6, q7⟩ := hx4.cells
      have HX4 := Lib.hid hx4
      obtain ⟨i, hi⟩ : ∃ i, l.findIdx (matchP f0 0 f2) = i := ⟨_, rfl⟩
      have HFI := Lib.hid (show fi f0 0 f2 l = if i < l.length then (i : Int) else -1 by unfold fi; rw [hi])
      rw [HFI.out]
      rw [hi] at HE HL
      clear hi hb4 hbw4 hx4 hf4 p0 p1 p2 p3 p4 p5 p6 p7 z1 HBW HXX HLT HFI HMN
      by_cases hil : i < l.length
      · rw [if_pos hil] at HE HL ⊢
        obtain ⟨bb, cap, rfl, hbb, hbl⟩ := R8.form HF4.out.2.1 (by omega)
        have hd := HBW4.out.drew
        have hfd := HF4.out.later (Below.refl w4.heap.size w4).drew
        have HTB := Lib.hid (R8.there hfd.2.1 i hil)
        have hs := R8.set hfd.2.1 i hil ⟨f0, 0, f2, ⟨r0, r1, r2, r3, r4⟩⟩
        obtain ⟨w5, hw5⟩ : ∃ w5, w4.drew.setCells bb (i * 8) (W8.cs ⟨f0, 0, f2, ⟨r0, r1, r2, r3, r4⟩⟩) = w5 := ⟨_, rfl⟩
        rw [hw5] at hs
        have hne := hfd.ne
        have HB5 : Hid (Bf w5 B g (.slice (some ⟨bb, 0, none⟩) l.length cap) (l.set i ⟨f0, 0, f2, ⟨r0, r1, r2, r3, r4⟩⟩)) := Lib.hid ⟨(hs.2.block g hfd.lt (fun e => hne (by rw [e]; simp [Value.ownBlock]))).trans hfd.1, hs.1, hfd.2.2.1, by rw [List.length_set]; exact h64⟩
        have HK5 : Hid (Kp w w5 g (.slice (some ⟨bb, 0, none⟩) l.length cap)) := Lib.hid ((Kp.of_below hd g _).trans (Kp.of_grown_v (v := .slice (some ⟨bb, 0, none⟩) l.length cap) (by simpa [Value.ownBlock] using hs.2) g) (.inl rfl))
        have HW5 := Lib.hid hw5
        clear hz4 hs hw5 hne hd hfd
        go_wp2
        go_still_tail 7, (by kernel_rfl)
        refine store_named (P := Try.prog) rfl 31 (.tmp 48) (.tmp 47) rfl bb (i * 8) #[.int .i64 f0, .int .i64 0, .int .i64 f2, .int .i64 r0, .int .i64 r1, .int .u64 r2, .int .u64 r3, .int .i64 r4] rfl rfl HTB.out infoW8 (all_oneCell_toArray (one8 ⟨f0, 0, f2, ⟨r0, r1, r2, r3, r4⟩⟩)) HW5.out ?_
        go_wp2
        go_ret
        refine ⟨by rw [HE.out]; rfl, _, ?_, HK5.out, .inl rfl⟩
        rw [HL.out]
        exact HB5.out
      · rw [if_neg hil] at HE HL ⊢
        by_cases h64' : l.length = 64
        · rw [if_pos h64'] at HE HL
          obtain ⟨A, c, rfl, hlc, _⟩ := HF4.out.2.1.reads
          have e64 : ((l.length : Int) == 64) = true := by rw [h64']; rfl
          go_wp2
          go_ret
          refine ⟨by rw [HE.out]; rfl, _, ?_, Kp.of_below HBW4.out _ _, .inl rfl⟩
          rw [HL.out]
          exact HF4.out
        · rw [if_neg h64'] at HE HL
          obtain ⟨A, c, rfl, hlc, _⟩ := HF4.out.2.1.reads
          have hBw : B ≤ w.heap.size := by have := HF4.out.2.2.1; omega
          have HBB := Lib.hid (HBW4.out.drew.mono hBw)
          have hBs := HBB.out.size
          have hfd := HF4.out.later (Below.refl w4.heap.size w4).drew
          have HFD := Lib.hid hfd
          have hs4 := HBW4.out.size
          have e64 : ((l.length : Int) == 64) = false := by rw [beq_eq_false_iff_ne]; omega
          have hgl4 := HF4.out.lt
          have hBd : B ≤ w4.drew.heap.size := by show B ≤ w4.heap.size; omega
          have HLW := Lib.hid (fun b (hb : (Value.slice A l.length c).ownBlock = some b) => show b ≠ w.heap.size from fun e => by have := (R8.lt HF.out.2.1 b hb).2; omega)
          clear hfd
          go_wp2
          go_region_law ((refine Kd.R_append_step (P := Try.prog) k8 (w0 := w) (W := w4.drew) B (by rfl) (.tmp 33) (.tmp 35) 32 31 zW 64 (by rfl) Try.underlying32 infoW rfl (by decide) (by decide) (.slice A l.length c) l ⟨f0, 0, f2, ⟨r0, r1, r2, r3, r4⟩⟩ _ (fun _ => True) (fun _ => False) (by rfl) (by rfl) (k8_M _ _ _ _) (fun _ h => h.elim) (fun _ _ => trivial) HFD.out.2.1 HBB.out hBd (by omega) ?_; intro v1 w5 hr5 hb5 hg5 hat5; obtain ⟨A9, c9, rfl, _, _⟩ := Kd.R_reads hr5; have hf5 := app_keep HFD.out hr5 hg5; have hcg := hf5.cell; have hzg := hf5.free; obtain ⟨t0, t1, t2, t3, t4, t5, t6, t7⟩ := Bx8.cells (app_box HFD.out HX4.out hg5 HLW.out)))
          all_goals
            simp only [List.length_append, List.length_cons, List.length_nil, Nat.zero_add] at hr5 hat5
            have HB5 := Lib.hid (app_done HFD.out hr5 hf5 (show l.length < 64 by omega))
            have HK5 := Lib.hid (((Kp.of_below HBW4.out.drew g (.slice A l.length c)).trans (Kp.of_grown_v hg5 g) (.inl rfl)).trans (Kp.of_grown_g (grown_set w5 g 0 (.slice A9 (l.length + 1) c9)) (.slice A l.length c)) (.inl rfl))
            have HAT : Hid ((Value.slice A9 (l.length + 1) c9).ownBlock = (Value.slice A l.length c).ownBlock ∨ ∃ b, (Value.slice A9 (l.length + 1) c9).ownBlock = some b ∧ w.heap.size ≤ b) := Lib.hid (by
              rcases hat5 with h | ⟨b, h, h2⟩
              · exact .inl h
              · exact .inr ⟨b, h, Nat.le_trans hBs h2⟩)
            clear hr5 hb5 hg5 hat5 hf5 t0 t1 t2 t3 t4 t5 t6 t7
            go_wp2
            go_ret
            refine ⟨by rw [HE.out]; rfl, _, ?_, HK5.out, HAT.out⟩
            rw [HL.out]
            exact HB5.out
end Go.Proofs.Ytmdjbldmfmoaaaa.Bu
