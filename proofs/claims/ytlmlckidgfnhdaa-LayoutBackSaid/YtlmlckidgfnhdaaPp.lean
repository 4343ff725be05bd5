/- What super words say: in plain words; number. -/
import Derived.Test.YtlmlckidgfnhdaaKp
import Derived.Test.YtlmlckidgfnhdaaMy
namespace Go.Proofs.Ytlmlckidgfnhdaa.Pp
open Go.RowKit Go.ChangeShapes Go.WideShapes Go.Proofs.YtlmlckidgfnhdaaW.PrintWords Go.Proofs.Ytlmlckidgfnhdaa.Ba Go.Proofs.Ytlmlckidgfnhdaa.Kw Go.Proofs.Ytlmlckidgfnhdaa.Pc Go.Proofs.Ytlmlckidgfnhdaa.My Go.Proofs.Ytlmlckidgfnhdaa.Wd Go.Proofs.Ytlmlckidgfnhdaa.Kp
set_option linter.unusedVariables false
set_option linter.unusedSimpArgs false
def num (x : Nat) : Nat := if x ≤ 4097 then x else 4097
theorem number_any (x : Nat) (w : World) : Calls Try.prog 37 #[.int .u64 (x : Int)] w fun e w' => e = .returned (.int .i64 (num x : Int)) ∧ w = w' := by
  by_cases h : x ≤ 4097
  · have e : num x = x := if_pos h
    rw [e]
    have hm : min (x : Int) 4097 = (x : Int) := by omega
    have hw : IntKind.i64.wrap (x : Int) = (x : Int) := Go.IntWalk.i64_in _ (by omega)
    go_enter Try.func37, Try.ntmps37
    go_wp2
    go_ret
    exact ⟨by first | rfl | (simp [hm, hw]), rfl⟩
  · have e : num x = 4097 := if_neg h
    rw [e]
    have hm : min (x : Int) 4097 = 4097 := by omega
    go_enter Try.func37, Try.ntmps37
    go_wp2
    go_ret
    exact ⟨by first | rfl | (simp [hm]), rfl⟩
/-- A row of words is read. -/
def WR (w : World) (A : Option Addr) (l : List Nat) : Prop := ∀ i, i < l.length → ∃ ad, A = some ad ∧ w.cell? (ad.add i) = some (.int .u64 ((l.getD i 0 : Nat) : Int))
theorem WR.old {w w' : World} {A : Option Addr} {l : List Nat} (h : WR w A l) (hb : ∀ k, k < w.heap.size → w'.heap[k]? = w.heap[k]?) : WR w' A l := by
  intro i hi
  obtain ⟨ad, e, hc⟩ := h i hi
  exact ⟨ad, e, cell_old hc hb⟩
def fl (y : Nat) : List Int := flds y (y % 16)
def kds (ws : List Nat) : Nat → List (List Int)
  | 0 => []
  | k + 1 => kds ws k ++ [fl (ws.getD (9 + k) 0)]
def allK (ws : List Nat) : Nat → Bool
  | 0 => true
  | k + 1 => allK ws k && kP (ws.getD (9 + k) 0)
theorem kds_len (ws : List Nat) (k : Nat) : (kds ws k).length = k := by
  induction k with
  | zero => rfl
  | succ k ih => show (kds ws k ++ [_]).length = _; rw [List.length_append, ih]; rfl
theorem allK_no {ws : List Nat} {k n : Nat} (hk : k < n) (h : kP (ws.getD (9 + k) 0) = false) : allK ws n = false := by
  induction n with
  | zero => omega
  | succ n ih =>
    show (allK ws n && kP (ws.getD (9 + n) 0)) = false
    by_cases e : k = n
    · subst e; rw [h, Bool.and_false]
    · rw [ih (by omega), Bool.false_and]
def cfN (ws : List Nat) (ks : List (List Int)) : Cf := ⟨ks, num (ws.getD 4 0), num (ws.getD 5 0), num (ws.getD 6 0), num (ws.getD 7 0), num (ws.getD 1 0), num (ws.getD 2 0), num (ws.getD 3 0)⟩
def kN (ws : List Nat) : Nat := num (ws.getD 8 0)
/-- The config of super words. -/
def cfW (ws : List Nat) : Cf := cfN ws (kds ws (kN ws))
structure Ok (ws : List Nat) : Prop where
  l : 9 ≤ ws.length
  s : ws.getD 0 0 = 8317131967827831151
  n : 9 + kN ws ≤ ws.length
  k : allK ws (kN ws) = true
  m : mayE (cfW ws) = 0
theorem num_small {x : Nat} (h : (num x : Int) ≤ 4096) : x ≤ 4096 ∧ num x = x := by
  unfold num at h ⊢
  split
  · rename_i h1
    rw [if_pos h1] at h
    exact ⟨by omega, rfl⟩
  · rename_i h1
    rw [if_neg h1] at h
    omega
theorem num_id {x : Nat} (h : x ≤ 4096) : num x = x := if_pos (by omega)
theorem Ok.arg {ws : List Nat} (h : Ok ws) : Arg (cfW ws) := (mayE_zero h.m).1
theorem Ok.kn {ws : List Nat} (h : Ok ws) : 1 ≤ kN ws ∧ kN ws ≤ 16 := by
  have a := h.arg
  have h0 := a.k0
  have h1 := a.k1
  have e : (cfW ws).ks.length = kN ws := kds_len ws _
  rw [e] at h0 h1
  exact ⟨h0, h1⟩
theorem Ok.w8 {ws : List Nat} (h : Ok ws) : ws.getD 8 0 ≤ 16 ∧ kN ws = ws.getD 8 0 := by
  have h1 := h.kn
  have h2 := num_small (x := ws.getD 8 0) (by have : kN ws = num (ws.getD 8 0) := rfl; omega)
  exact ⟨by have : kN ws = num (ws.getD 8 0) := rfl; omega, h2.2⟩
theorem Ok.small {ws : List Nat} (h : Ok ws) (i : Nat) (h1 : 1 ≤ i) (h2 : i ≤ 8) : ws.getD i 0 ≤ 4096 := by
  have a := h.arg
  have hi : i = 1 ∨ i = 2 ∨ i = 3 ∨ i = 4 ∨ i = 5 ∨ i = 6 ∨ i = 7 ∨ i = 8 := by omega
  rcases hi with rfl | rfl | rfl | rfl | rfl | rfl | rfl | rfl
  · have := a.ro.2
    exact (num_small (x := ws.getD 1 0) (by have : (num (ws.getD 1 0) : Int) ≤ 16 := this; omega)).1
  · have := a.we.2
    exact (num_small (x := ws.getD 2 0) (by have : (num (ws.getD 2 0) : Int) ≤ 16 := this; omega)).1
  · have := a.lg.2
    exact (num_small (x := ws.getD 3 0) (by have : (num (ws.getD 3 0) : Int) ≤ 4096 := this; omega)).1
  · have := a.b0.2
    exact (num_small (x := ws.getD 4 0) (by have : (num (ws.getD 4 0) : Int) ≤ 512 := this; omega)).1
  · have := a.b1.2
    exact (num_small (x := ws.getD 5 0) (by have : (num (ws.getD 5 0) : Int) ≤ 512 := this; omega)).1
  · have := a.b2.2
    exact (num_small (x := ws.getD 6 0) (by have : (num (ws.getD 6 0) : Int) ≤ 512 := this; omega)).1
  · have := a.b3.2
    exact (num_small (x := ws.getD 7 0) (by have : (num (ws.getD 7 0) : Int) ≤ 512 := this; omega)).1
  · have := h.w8
    omega
def PPost (ws : List Nat) (w : World) (e : Ending) (w' : World) : Prop := Below w.heap.size w w' ∧ ((Ok ws ∧ ∃ A k, e = .returned (.tuple #[.agg #[.slice A (cfW ws).ks.length k, .int .i64 (cfW ws).b0, .int .i64 (cfW ws).b1, .int .i64 (cfW ws).b2, .int .i64 (cfW ws).b3, .int .i64 (cfW ws).ro, .int .i64 (cfW ws).we, .int .i64 (cfW ws).lg], .int .i64 0]) ∧ Ks w' A (cfW ws).ks ∧ (cfW ws).ks.length ≤ k) ∨
  (¬ Ok ws ∧ e = .returned (.tuple #[.agg #[.slice none 0 0, .int .i64 0, .int .i64 0, .int .i64 0, .int .i64 0, .int .i64 0, .int .i64 0, .int .i64 0], .int .i64 8])))
end Go.Proofs.Ytlmlckidgfnhdaa.Pp
