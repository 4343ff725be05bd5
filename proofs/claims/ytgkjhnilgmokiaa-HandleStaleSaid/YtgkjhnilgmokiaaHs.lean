/- What HandleStale keeps: each handle that was told, its slot, how old; the two maps. -/
import Derived.Test.YtgkjhnilgmokiaaHp
import Derived.Test.YtgkjhnilgmokiaaMi
namespace Go.Proofs.Ytgkjhnilgmokiaa.Hs
open Go.RowKit Go.Proofs.Ytgkjhnilgmokiaa.Ha Go.Proofs.Ytgkjhnilgmokiaa.Mi

def put (f : Int → Option Int) (x y : Int) : Int → Option Int := fun k => if k = x then some y else f k
structure Inv (o : Nat → Int) (u : Nat → Bool) (a : Nat → Int) (l : List Int) (f g : Int → Option Int) : Prop where
  told : ∀ h ∈ l, ∃ m : Nat, ∃ q : Int, m < 64 ∧ h = (m : Int) + 64 * q ∧ 0 ≤ q ∧ q ≤ a m ∧ (q = a m → u m = true ∧ f h = some (o m) ∧ g h = none) ∧ (q < a m → g h = some 1)
  isF : ∀ h, f h ≠ none → h ∈ l
  isG : ∀ h, g h ≠ none → h ∈ l
theorem Inv.start (a : Nat → Int) : Inv (fun _ => 0) (fun _ => false) a [] (fun _ => none) (fun _ => none) :=
  ⟨(fun _ h => absurd h (by simp)), (fun _ h => absurd rfl h), (fun _ h => absurd rfl h)⟩
theorem Inv.fresh {o : Nat → Int} {u : Nat → Bool} {a : Nat → Int} {l : List Int} {f g : Int → Option Int} (h : Inv o u a l f g) {m : Nat} (hm : m < 64) (hu : u m = false) : ((m : Int) + 64 * a m) ∉ l := by
  intro hl
  obtain ⟨m', q, hm', e, h0, h1, h2, _⟩ := h.told _ hl
  have e1 : m' = m := by omega
  subst e1
  have e2 : q = a m' := by omega
  rw [(h2 e2).1] at hu
  cases hu
theorem Inv.none_f {o : Nat → Int} {u : Nat → Bool} {a : Nat → Int} {l : List Int} {f g : Int → Option Int} (h : Inv o u a l f g) {z : Int} (hz : z ∉ l) : f z = none := by
  cases e : f z with
  | none => rfl
  | some y => exact absurd (h.isF z (by rw [e]; simp)) hz
theorem Inv.none_g {o : Nat → Int} {u : Nat → Bool} {a : Nat → Int} {l : List Int} {f g : Int → Option Int} (h : Inv o u a l f g) {z : Int} (hz : z ∉ l) : g z = none := by
  cases e : g z with
  | none => rfl
  | some y => exact absurd (h.isG z (by rw [e]; simp)) hz
theorem Inv.put {o : Nat → Int} {u : Nat → Bool} {a : Nat → Int} {l : List Int} {f g : Int → Option Int} (h : Inv o u a l f g) {m : Nat} (hm : m < 64) (hu : u m = false) (ha : 0 ≤ a m) (x : Int) :
    Inv (upd o m x) (upd u m true) a (l ++ [(m : Int) + 64 * a m]) (Hs.put f ((m : Int) + 64 * a m) x) g := by
  have hz := h.fresh hm hu
  refine ⟨fun b hb => ?_, fun b hb => ?_, fun b hb => List.mem_append_left _ (h.isG b hb)⟩
  · rcases List.mem_append.1 hb with hb | hb
    · obtain ⟨m', q, hm', e, h0, h1, h2, h3⟩ := h.told b hb
      refine ⟨m', q, hm', e, h0, h1, fun hq => ?_, h3⟩
      have hne : m' ≠ m := fun e1 => by
        subst e1
        rw [(h2 hq).1] at hu
        cases hu
      have hbz : b ≠ (m : Int) + 64 * a m := fun e1 => hz (e1 ▸ hb)
      unfold upd Hs.put
      rw [if_neg hne, if_neg hne, if_neg hbz]
      exact h2 hq
    · rw [List.mem_singleton] at hb
      subst hb
      refine ⟨m, a m, hm, rfl, ha, Int.le_refl _, fun _ => ?_, fun hq => absurd hq (Int.lt_irrefl _)⟩
      unfold upd Hs.put
      rw [if_pos rfl, if_pos rfl, if_pos rfl]
      exact ⟨rfl, rfl, h.none_g hz⟩
  · unfold Hs.put at hb
    by_cases e : b = (m : Int) + 64 * a m
    · rw [e]; simp
    · rw [if_neg e] at hb
      exact List.mem_append_left _ (h.isF b hb)
theorem Inv.drop {o : Nat → Int} {u : Nat → Bool} {a : Nat → Int} {l : List Int} {f g : Int → Option Int} (h : Inv o u a l f g) {m : Nat} (hm : m < 64) (hl : ((m : Int) + 64 * a m) ∈ l) (y : Int) :
    Inv (upd o m y) (upd u m false) (upd a m (a m + 1)) l f (Hs.put g ((m : Int) + 64 * a m) 1) := by
  refine ⟨fun b hb => ?_, h.isF, fun b hb => ?_⟩
  · obtain ⟨m', q, hm', e, h0, h1, h2, h3⟩ := h.told b hb
    by_cases hne : m' = m
    · subst hne
      refine ⟨m', q, hm', e, h0, by unfold upd; rw [if_pos rfl]; omega, fun hq => ?_, fun _ => ?_⟩
      · unfold upd at hq; rw [if_pos rfl] at hq; omega
      · unfold Hs.put
        by_cases e1 : b = (m' : Int) + 64 * a m'
        · rw [if_pos e1]
        · rw [if_neg e1]
          exact h3 (by omega)
    · have hbz : b ≠ (m : Int) + 64 * a m := fun e1 => by omega
      refine ⟨m', q, hm', e, h0, by unfold upd; rw [if_neg hne]; exact h1, fun hq => ?_, fun hq => ?_⟩
      · unfold upd at hq ⊢
        rw [if_neg hne] at hq
        unfold Hs.put
        rw [if_neg hne, if_neg hne, if_neg hbz]
        exact h2 hq
      · unfold upd at hq
        rw [if_neg hne] at hq
        unfold Hs.put
        rw [if_neg hbz]
        exact h3 hq
  · unfold Hs.put at hb
    by_cases e : b = (m : Int) + 64 * a m
    · rw [e]; exact hl
    · rw [if_neg e] at hb
      exact h.isG b hb
end Go.Proofs.Ytgkjhnilgmokiaa.Hs
