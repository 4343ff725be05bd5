/-
  A value as a field's words (value.Words, the reference's ValueWords).
-/
import Derived.Test.YtacfddlclbelmaaDoorBase
namespace Go.Proofs.YtacfddlclbelmaaDoor.Va
open Go.RowKit Go.ChangeShapes Go.WideShapes Go.Proofs.YtacfddlclbelmaaDoorW.PrintWords Go.Proofs.YtacfddlclbelmaaDoor.Ba
set_option linter.unusedVariables false
set_option maxRecDepth 100000
set_option maxHeartbeats 4000000
set_option linter.unusedSimpArgs false
set_option linter.unusedSimpArgs false
set_option linter.unusedSimpArgs false
def wordsV (kind : Int) (v : V5) : Option (List Int) :=
  if kind = 1 ∧ v.kd = 1 then some [IntKind.u64.wrap v.n]
  else if kind = 2 ∧ v.kd = 2 then some [v.re, v.im]
  else if kind = 3 ∧ v.kd = 0 then some [0]
  else if kind = 3 ∧ v.kd = 3 ∧ 0 ≤ v.ref ∧ v.ref ≤ 1099511627776 then some [v.ref + 1] else none
/-- A row of words is read: cell by cell. -/
def RU (w : World) (A : Option Addr) (l : List Int) : Prop := ∀ i, i < l.length → ∃ ad, A = some ad ∧ w.cell? (ad.add i) = some (.int .u64 (l.getD i 0))
theorem RU.below {w w' : World} {A : Option Addr} {l : List Int} (h : RU w A l) (hb : Below w.heap.size w w') : RU w' A l := by
  intro i hi
  obtain ⟨ad, e, hc⟩ := h i hi
  exact ⟨ad, e, cell_old hc hb.block⟩
def WPost (kind : Int) (v : V5) (w : World) (e : Ending) (w' : World) : Prop :=
  ∃ A c, e = .returned (.tuple #[.slice A ((wordsV kind v).getD []).length c, .bool (wordsV kind v).isSome]) ∧ ((wordsV kind v).getD []).length ≤ c ∧ RU w' A ((wordsV kind v).getD []) ∧ Below w.heap.size w w'
theorem ru_one (w : World) (a : Int) (t : TypeId) : RU (w.alloc (.cells #[.int .u64 a] t)) (some ⟨w.heap.size, 0, none⟩) [a] := by
  intro i hi
  have hi' : i < 1 := hi
  refine ⟨_, rfl, ?_⟩
  obtain rfl : i = 0 := by omega
  exact cell_of_row _ _ 0 _ t (0, 0) (heap_alloc_new _ _)
theorem ru_two (w : World) (a b : Int) (t : TypeId) : RU (w.alloc (.cells #[.int .u64 a, .int .u64 b] t)) (some ⟨w.heap.size, 0, none⟩) [a, b] := by
  intro i hi
  have hi' : i < 2 := hi
  refine ⟨_, rfl, ?_⟩
  rcases (show i = 0 ∨ i = 1 by omega) with rfl | rfl
  · exact cell_of_row _ _ 0 _ t (0, 0) (heap_alloc_new _ _)
  · exact cell_of_row _ _ 1 _ t (0, 0) (heap_alloc_new _ _)
theorem ru_nil (w : World) (A : Option Addr) : RU w A [] := fun i hi => absurd hi (by simp)
theorem bel_two (w : World) (a b : Obj) : Below w.heap.size w ((w.alloc a).alloc b) :=
  ((Below.refl w.heap.size w).alloc (Nat.le_refl _) a).alloc (by rw [size_al]; omega) b
theorem bel_one (w : World) (a : Obj) : Below w.heap.size w (w.alloc a) := (Below.refl w.heap.size w).alloc (Nat.le_refl _) a
theorem wrap_u64n (n : Int) (h0 : 0 ≤ n) (h1 : n < 18446744073709551616) : IntKind.u64.wrap n = n := by
  rw [IntKind.wrap_u64]
  omega
theorem ru_one1 (w : World) (o : Obj) (a : Int) (t : TypeId) : RU ((w.alloc o).alloc (.cells #[.int .u64 a] t)) (some ⟨w.heap.size + 1, 0, none⟩) [a] := by
  have h := ru_one (w.alloc o) a t
  rw [size_al] at h
  exact h
theorem ru_two1 (w : World) (o : Obj) (a b : Int) (t : TypeId) : RU ((w.alloc o).alloc (.cells #[.int .u64 a, .int .u64 b] t)) (some ⟨w.heap.size + 1, 0, none⟩) [a, b] := by
  have h := ru_two (w.alloc o) a b t
  rw [size_al] at h
  exact h
theorem words_any (kind kd n re im ref : Int) (hr : (Lit.int .i64 ref).wf = true) (w : World) : Calls Tryd.prog 10 #[.int .i64 kind, agg5 ⟨kd, n, re, im, ref⟩] w (WPost kind ⟨kd, n, re, im, ref⟩ w) := by
  obtain ⟨o, ho⟩ : ∃ o, wordsV kind ⟨kd, n, re, im, ref⟩ = o := ⟨_, rfl⟩
  unfold WPost agg5
  rw [ho]
  by_cases h1 : kind = 1
  · subst h1
    by_cases h2 : kd = 1
    · subst h2
      obtain rfl : some [IntKind.u64.wrap n] = o := by rw [← ho]; simp [wordsV]
      clear ho
      have hc : Calls Tryd.prog 10 #[.int .i64 1, .agg #[.int .i64 1, .int .i64 n, .int .u64 re, .int .u64 im, .int .i64 ref]] w (fun e w' => e = .returned (.tuple #[.slice (some ⟨w.heap.size + 1, 0, none⟩) 1 1, .bool true]) ∧ RU w' (some ⟨w.heap.size + 1, 0, none⟩) [IntKind.u64.wrap n] ∧ Below w.heap.size w w') := by
        go_enter Tryd.func10, Tryd.ntmps10
        go_wp2
        go_ret2
        exact ⟨rfl, ru_one1 _ _ _ _, bel_two _ _ _⟩
      exact hc.mono fun e w' h => ⟨_, 1, h.1, Nat.le_refl _, h.2.1, h.2.2⟩
    · obtain rfl : none = o := by rw [← ho]; simp [wordsV, h2]
      clear ho
      have hc : Calls Tryd.prog 10 #[.int .i64 1, .agg #[.int .i64 kd, .int .i64 n, .int .u64 re, .int .u64 im, .int .i64 ref]] w (fun e w' => e = .returned (.tuple #[.slice none 0 0, .bool false]) ∧ Below w.heap.size w w') := by
        go_enter Tryd.func10, Tryd.ntmps10
        go_wp2
        go_ret2
        exact ⟨rfl, bel_one _ _⟩
      exact hc.mono fun e w' h => ⟨none, 0, h.1, Nat.le_refl _, ru_nil _ _, h.2⟩
  · by_cases h2 : kind = 2
    · subst h2
      by_cases h2 : kd = 2
      · subst h2
        obtain rfl : some [re, im] = o := by rw [← ho]; simp [wordsV]
        clear ho
        have hc : Calls Tryd.prog 10 #[.int .i64 2, .agg #[.int .i64 2, .int .i64 n, .int .u64 re, .int .u64 im, .int .i64 ref]] w (fun e w' => e = .returned (.tuple #[.slice (some ⟨w.heap.size + 1, 0, none⟩) 2 2, .bool true]) ∧ RU w' (some ⟨w.heap.size + 1, 0, none⟩) [re, im] ∧ Below w.heap.size w w') := by
          go_enter Tryd.func10, Tryd.ntmps10
          go_wp2
          go_ret2
          exact ⟨rfl, ru_two1 _ _ _ _ _, bel_two _ _ _⟩
        exact hc.mono fun e w' h => ⟨_, 2, h.1, Nat.le_refl _, h.2.1, h.2.2⟩
      · obtain rfl : none = o := by rw [← ho]; simp [wordsV, h2]
        clear ho
        have hc : Calls Tryd.prog 10 #[.int .i64 2, .agg #[.int .i64 kd, .int .i64 n, .int .u64 re, .int .u64 im, .int .i64 ref]] w (fun e w' => e = .returned (.tuple #[.slice none 0 0, .bool false]) ∧ Below w.heap.size w w') := by
          go_enter Tryd.func10, Tryd.ntmps10
          go_wp2
          go_ret2
          exact ⟨rfl, bel_one _ _⟩
        exact hc.mono fun e w' h => ⟨none, 0, h.1, Nat.le_refl _, ru_nil _ _, h.2⟩
    · by_cases h3 : kind = 3
      · subst h3
        by_cases h2 : kd = 0
        · subst h2
          obtain rfl : some [0] = o := by rw [← ho]; simp [wordsV]
          clear ho
          have hc : Calls Tryd.prog 10 #[.int .i64 3, .agg #[.int .i64 0, .int .i64 n, .int .u64 re, .int .u64 im, .int .i64 ref]] w (fun e w' => e = .returned (.tuple #[.slice (some ⟨w.heap.size + 1, 0, none⟩) 1 1, .bool true]) ∧ RU w' (some ⟨w.heap.size + 1, 0, none⟩) [0] ∧ Below w.heap.size w w') := by
            go_enter Tryd.func10, Tryd.ntmps10
            go_wp2
            go_ret2
            exact ⟨rfl, ru_one1 _ _ _ _, bel_two _ _ _⟩
          exact hc.mono fun e w' h => ⟨_, 1, h.1, Nat.le_refl _, h.2.1, h.2.2⟩
        · by_cases h3 : kd = 3
          · subst h3
            by_cases h4 : 0 ≤ ref
            · by_cases h5 : ref ≤ 1099511627776
              · have hu : IntKind.u64.wrap ref = ref := wrap_u64n _ h4 (by omega)
                have hu1 : IntKind.u64.wrap (ref + 1) = ref + 1 := wrap_u64n _ (by omega) (by omega)
                obtain rfl : some [ref + 1] = o := by rw [← ho]; simp [wordsV, h4, h5]
                clear ho
                have hc : Calls Tryd.prog 10 #[.int .i64 3, .agg #[.int .i64 3, .int .i64 n, .int .u64 re, .int .u64 im, .int .i64 ref]] w (fun e w' => e = .returned (.tuple #[.slice (some ⟨w.heap.size + 1, 0, none⟩) 1 1, .bool true]) ∧ RU w' (some ⟨w.heap.size + 1, 0, none⟩) [ref + 1] ∧ Below w.heap.size w w') := by
                  go_enter Tryd.func10, Tryd.ntmps10
                  go_wp2
                  go_ret2
                  exact ⟨rfl, ru_one1 _ _ _ _, bel_two _ _ _⟩
                exact hc.mono fun e w' h => ⟨_, 1, h.1, Nat.le_refl _, h.2.1, h.2.2⟩
              · obtain rfl : none = o := by rw [← ho]; simp [wordsV, h4, h5]
                clear ho
                have hc : Calls Tryd.prog 10 #[.int .i64 3, .agg #[.int .i64 3, .int .i64 n, .int .u64 re, .int .u64 im, .int .i64 ref]] w (fun e w' => e = .returned (.tuple #[.slice none 0 0, .bool false]) ∧ Below w.heap.size w w') := by
                  go_enter Tryd.func10, Tryd.ntmps10
                  go_wp2
                  go_ret2
                  exact ⟨rfl, bel_one _ _⟩
                exact hc.mono fun e w' h => ⟨none, 0, h.1, Nat.le_refl _, ru_nil _ _, h.2⟩
            · obtain rfl : none = o := by rw [← ho]; simp [wordsV, h4]
              clear ho
              have hc : Calls Tryd.prog 10 #[.int .i64 3, .agg #[.int .i64 3, .int .i64 n, .int .u64 re, .int .u64 im, .int .i64 ref]] w (fun e w' => e = .returned (.tuple #[.slice none 0 0, .bool false]) ∧ Below w.heap.size w w') := by
                go_enter Tryd.func10, Tryd.ntmps10
                go_wp2
                go_ret2
                exact ⟨rfl, bel_one _ _⟩
              exact hc.mono fun e w' h => ⟨none, 0, h.1, Nat.le_refl _, ru_nil _ _, h.2⟩
          · obtain rfl : none = o := by rw [← ho]; simp [wordsV, h2, h3]
            clear ho
            have hc : Calls Tryd.prog 10 #[.int .i64 3, .agg #[.int .i64 kd, .int .i64 n, .int .u64 re, .int .u64 im, .int .i64 ref]] w (fun e w' => e = .returned (.tuple #[.slice none 0 0, .bool false]) ∧ Below w.heap.size w w') := by
              go_enter Tryd.func10, Tryd.ntmps10
              go_wp2
              go_ret2
              exact ⟨rfl, bel_one _ _⟩
            exact hc.mono fun e w' h => ⟨none, 0, h.1, Nat.le_refl _, ru_nil _ _, h.2⟩
      · obtain rfl : none = o := by rw [← ho]; simp [wordsV, h1, h2, h3]
        clear ho
        have hc : Calls Tryd.prog 10 #[.int .i64 kind, .agg #[.int .i64 kd, .int .i64 n, .int .u64 re, .int .u64 im, .int .i64 ref]] w (fun e w' => e = .returned (.tuple #[.slice none 0 0, .bool false]) ∧ Below w.heap.size w w') := by
          go_enter Tryd.func10, Tryd.ntmps10
          go_wp2
          go_ret2
          exact ⟨rfl, bel_one _ _⟩
        exact hc.mono fun e w' h => ⟨none, 0, h.1, Nat.le_refl _, ru_nil _ _, h.2⟩
theorem rwords_any (kind kd n re im ref : Int) (hr : (Lit.int .i64 ref).wf = true) (w : World) : Calls Tryd.prog 11 #[.int .i64 kind, agg5 ⟨kd, n, re, im, ref⟩] w (WPost kind ⟨kd, n, re, im, ref⟩ w) := by
  obtain ⟨o, ho⟩ : ∃ o, wordsV kind ⟨kd, n, re, im, ref⟩ = o := ⟨_, rfl⟩
  unfold WPost agg5
  rw [ho]
  by_cases h1 : kind = 1
  · subst h1
    by_cases h2 : kd = 1
    · subst h2
      obtain rfl : some [IntKind.u64.wrap n] = o := by rw [← ho]; simp [wordsV]
      clear ho
      have hc : Calls Tryd.prog 11 #[.int .i64 1, .agg #[.int .i64 1, .int .i64 n, .int .u64 re, .int .u64 im, .int .i64 ref]] w (fun e w' => e = .returned (.tuple #[.slice (some ⟨w.heap.size + 1, 0, none⟩) 1 1, .bool true]) ∧ RU w' (some ⟨w.heap.size + 1, 0, none⟩) [IntKind.u64.wrap n] ∧ Below w.heap.size w w') := by
        go_enter Tryd.func11, Tryd.ntmps11
        go_wp2
        go_ret2
        exact ⟨rfl, ru_one1 _ _ _ _, bel_two _ _ _⟩
      exact hc.mono fun e w' h => ⟨_, 1, h.1, Nat.le_refl _, h.2.1, h.2.2⟩
    · obtain rfl : none = o := by rw [← ho]; simp [wordsV, h2]
      clear ho
      have hc : Calls Tryd.prog 11 #[.int .i64 1, .agg #[.int .i64 kd, .int .i64 n, .int .u64 re, .int .u64 im, .int .i64 ref]] w (fun e w' => e = .returned (.tuple #[.slice none 0 0, .bool false]) ∧ Below w.heap.size w w') := by
        go_enter Tryd.func11, Tryd.ntmps11
        go_wp2
        go_ret2
        exact ⟨rfl, bel_one _ _⟩
      exact hc.mono fun e w' h => ⟨none, 0, h.1, Nat.le_refl _, ru_nil _ _, h.2⟩
  · by_cases h2 : kind = 2
    · subst h2
      by_cases h2 : kd = 2
      · subst h2
        obtain rfl : some [re, im] = o := by rw [← ho]; simp [wordsV]
        clear ho
        have hc : Calls Tryd.prog 11 #[.int .i64 2, .agg #[.int .i64 2, .int .i64 n, .int .u64 re, .int .u64 im, .int .i64 ref]] w (fun e w' => e = .returned (.tuple #[.slice (some ⟨w.heap.size + 1, 0, none⟩) 2 2, .bool true]) ∧ RU w' (some ⟨w.heap.size + 1, 0, none⟩) [re, im] ∧ Below w.heap.size w w') := by
          go_enter Tryd.func11, Tryd.ntmps11
          go_wp2
          go_ret2
          exact ⟨rfl, ru_two1 _ _ _ _ _, bel_two _ _ _⟩
        exact hc.mono fun e w' h => ⟨_, 2, h.1, Nat.le_refl _, h.2.1, h.2.2⟩
      · obtain rfl : none = o := by rw [← ho]; simp [wordsV, h2]
        clear ho
        have hc : Calls Tryd.prog 11 #[.int .i64 2, .agg #[.int .i64 kd, .int .i64 n, .int .u64 re, .int .u64 im, .int .i64 ref]] w (fun e w' => e = .returned (.tuple #[.slice none 0 0, .bool false]) ∧ Below w.heap.size w w') := by
          go_enter Tryd.func11, Tryd.ntmps11
          go_wp2
          go_ret2
          exact ⟨rfl, bel_one _ _⟩
        exact hc.mono fun e w' h => ⟨none, 0, h.1, Nat.le_refl _, ru_nil _ _, h.2⟩
    · by_cases h3 : kind = 3
      · subst h3
        by_cases h2 : kd = 0
        · subst h2
          obtain rfl : some [0] = o := by rw [← ho]; simp [wordsV]
          clear ho
          have hc : Calls Tryd.prog 11 #[.int .i64 3, .agg #[.int .i64 0, .int .i64 n, .int .u64 re, .int .u64 im, .int .i64 ref]] w (fun e w' => e = .returned (.tuple #[.slice (some ⟨w.heap.size + 1, 0, none⟩) 1 1, .bool true]) ∧ RU w' (some ⟨w.heap.size + 1, 0, none⟩) [0] ∧ Below w.heap.size w w') := by
            go_enter Tryd.func11, Tryd.ntmps11
            go_wp2
            go_ret2
            exact ⟨rfl, ru_one1 _ _ _ _, bel_two _ _ _⟩
          exact hc.mono fun e w' h => ⟨_, 1, h.1, Nat.le_refl _, h.2.1, h.2.2⟩
        · by_cases h3 : kd = 3
          · subst h3
            by_cases h4 : 0 ≤ ref
            · by_cases h5 : ref ≤ 1099511627776
              · have hu : IntKind.u64.wrap ref = ref := wrap_u64n _ h4 (by omega)
                have hu1 : IntKind.u64.wrap (ref + 1) = ref + 1 := wrap_u64n _ (by omega) (by omega)
                obtain rfl : some [ref + 1] = o := by rw [← ho]; simp [wordsV, h4, h5]
                clear ho
                have hc : Calls Tryd.prog 11 #[.int .i64 3, .agg #[.int .i64 3, .int .i64 n, .int .u64 re, .int .u64 im, .int .i64 ref]] w (fun e w' => e = .returned (.tuple #[.slice (some ⟨w.heap.size + 1, 0, none⟩) 1 1, .bool true]) ∧ RU w' (some ⟨w.heap.size + 1, 0, none⟩) [ref + 1] ∧ Below w.heap.size w w') := by
                  go_enter Tryd.func11, Tryd.ntmps11
                  go_wp2
                  go_ret2
                  exact ⟨rfl, ru_one1 _ _ _ _, bel_two _ _ _⟩
                exact hc.mono fun e w' h => ⟨_, 1, h.1, Nat.le_refl _, h.2.1, h.2.2⟩
              · obtain rfl : none = o := by rw [← ho]; simp [wordsV, h4, h5]
                clear ho
                have hc : Calls Tryd.prog 11 #[.int .i64 3, .agg #[.int .i64 3, .int .i64 n, .int .u64 re, .int .u64 im, .int .i64 ref]] w (fun e w' => e = .returned (.tuple #[.slice none 0 0, .bool false]) ∧ Below w.heap.size w w') := by
                  go_enter Tryd.func11, Tryd.ntmps11
                  go_wp2
                  go_ret2
                  exact ⟨rfl, bel_one _ _⟩
                exact hc.mono fun e w' h => ⟨none, 0, h.1, Nat.le_refl _, ru_nil _ _, h.2⟩
            · obtain rfl : none = o := by rw [← ho]; simp [wordsV, h4]
              clear ho
              have hc : Calls Tryd.prog 11 #[.int .i64 3, .agg #[.int .i64 3, .int .i64 n, .int .u64 re, .int .u64 im, .int .i64 ref]] w (fun e w' => e = .returned (.tuple #[.slice none 0 0, .bool false]) ∧ Below w.heap.size w w') := by
                go_enter Tryd.func11, Tryd.ntmps11
                go_wp2
                go_ret2
                exact ⟨rfl, bel_one _ _⟩
              exact hc.mono fun e w' h => ⟨none, 0, h.1, Nat.le_refl _, ru_nil _ _, h.2⟩
          · obtain rfl : none = o := by rw [← ho]; simp [wordsV, h2, h3]
            clear ho
            have hc : Calls Tryd.prog 11 #[.int .i64 3, .agg #[.int .i64 kd, .int .i64 n, .int .u64 re, .int .u64 im, .int .i64 ref]] w (fun e w' => e = .returned (.tuple #[.slice none 0 0, .bool false]) ∧ Below w.heap.size w w') := by
              go_enter Tryd.func11, Tryd.ntmps11
              go_wp2
              go_ret2
              exact ⟨rfl, bel_one _ _⟩
            exact hc.mono fun e w' h => ⟨none, 0, h.1, Nat.le_refl _, ru_nil _ _, h.2⟩
      · obtain rfl : none = o := by rw [← ho]; simp [wordsV, h1, h2, h3]
        clear ho
        have hc : Calls Tryd.prog 11 #[.int .i64 kind, .agg #[.int .i64 kd, .int .i64 n, .int .u64 re, .int .u64 im, .int .i64 ref]] w (fun e w' => e = .returned (.tuple #[.slice none 0 0, .bool false]) ∧ Below w.heap.size w w') := by
          go_enter Tryd.func11, Tryd.ntmps11
          go_wp2
          go_ret2
          exact ⟨rfl, bel_one _ _⟩
        exact hc.mono fun e w' h => ⟨none, 0, h.1, Nat.le_refl _, ru_nil _ _, h.2⟩
end Go.Proofs.YtacfddlclbelmaaDoor.Va
