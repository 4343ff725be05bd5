/- What is reached, in plain lists: the walk that both texts reckon. -/
import Derived.Test.YtdgclpgjoanimaaDoorMa
namespace Go.Proofs.YtdgclpgjoanimaaDoor.Pu
open Go.Proofs.YtdgclpgjoanimaaDoor.Ba Go.Proofs.YtdgclpgjoanimaaDoor.Ma
set_option linter.unusedVariables false
def addI (n : Nat) (out : List Int) (x : Int) : List Int := if isB n x = true ∧ x ∉ out then out ++ [x] else out
def addF (n : Nat) (out : List Int) (x : V5) : List Int := if x.kd = 3 then addI n out x.ref else out
def addFs (n : Nat) (out : List Int) (fs : List V5) : List Int := fs.foldl (addF n) out
def adds (n : Nat) (out : List Int) (xs : List Int) : List Int := xs.foldl (addI n) out
def nd (g : G3) (x : Int) : N2 := g.ns.getD x.toNat zN
def bfs (g : G3) : Nat → Nat → List Int → List Int
  | 0, _, out => out
  | f + 1, k, out => if k < out.length then bfs g f (k + 1) (addFs g.ns.length out (nd g (out.getD k 0)).fs) else out
def walkL (g : G3) (from_ : List Int) : List Int := bfs g (g.ns.length + 1) 0 (adds g.ns.length [] from_)
def Gd (n : Nat) (l : List Int) : Prop := l.Nodup ∧ ∀ x ∈ l, isB n x = true
theorem isB_iff {n : Nat} {x : Int} : isB n x = true ↔ 0 ≤ x ∧ x < (n : Int) := by unfold isB; simp
theorem gd_nil (n : Nat) : Gd n [] := ⟨List.nodup_nil, by simp⟩
theorem gd_addI {n : Nat} {out : List Int} (h : Gd n out) (x : Int) : Gd n (addI n out x) := by
  unfold addI
  split
  · rename_i hx
    refine ⟨?_, ?_⟩
    · rw [List.nodup_append]
      refine ⟨h.1, by simp, ?_⟩
      intro a ha b hb
      rw [List.mem_singleton] at hb
      subst hb
      exact fun e => hx.2 (e ▸ ha)
    · intro y hy
      rcases List.mem_append.1 hy with hy | hy
      · exact h.2 y hy
      · rw [List.mem_singleton.1 hy]; exact hx.1
  · exact h
theorem gd_addF {n : Nat} {out : List Int} (h : Gd n out) (x : V5) : Gd n (addF n out x) := by
  unfold addF
  split
  · exact gd_addI h _
  · exact h
theorem gd_addFs {n : Nat} (fs : List V5) : ∀ {out : List Int}, Gd n out → Gd n (addFs n out fs) := by
  induction fs with
  | nil => exact fun h => h
  | cons x xs ih => exact fun h => ih (gd_addF h x)
theorem gd_adds {n : Nat} (xs : List Int) : ∀ {out : List Int}, Gd n out → Gd n (adds n out xs) := by
  induction xs with
  | nil => exact fun h => h
  | cons x xs ih => exact fun h => ih (gd_addI h x)
theorem pigeon (n : Nat) : ∀ l : List Int, l.Nodup → (∀ x ∈ l, 0 ≤ x ∧ x < (n : Int)) → l.length ≤ n := by
  induction n with
  | zero =>
    intro l _ h
    cases l with
    | nil => simp
    | cons a l => have := h a List.mem_cons_self; omega
  | succ n ih =>
    intro l hn h
    have h1 := ih (l.erase (n : Int)) (hn.erase _) (by
      intro x hx
      have hm := h x (List.mem_of_mem_erase hx)
      have hne : x ≠ (n : Int) := fun e => by rw [e] at hx; exact hn.not_mem_erase hx
      omega)
    rw [List.length_erase] at h1
    split at h1 <;> omega
theorem gd_le {n : Nat} {l : List Int} (h : Gd n l) : l.length ≤ n := pigeon n l h.1 fun x hx => isB_iff.1 (h.2 x hx)
theorem gd_bfs {g : G3} (f : Nat) : ∀ (k : Nat) (out : List Int), Gd g.ns.length out → Gd g.ns.length (bfs g f k out) := by
  induction f with
  | zero => exact fun k out h => h
  | succ f ih =>
    intro k out h
    unfold bfs
    split
    · exact ih _ _ (gd_addFs _ h)
    · exact h
theorem gd_walk (g : G3) (xs : List Int) : Gd g.ns.length (walkL g xs) := gd_bfs _ _ _ (gd_adds xs (gd_nil _))
theorem bfs_step {g : G3} {out : List Int} {k : Nat} (hk : k < out.length) (hn : out.length ≤ g.ns.length) :
    bfs g (g.ns.length + 1 - k) k out = bfs g (g.ns.length + 1 - (k + 1)) (k + 1) (addFs g.ns.length out (nd g (out.getD k 0)).fs) := by
  rw [show g.ns.length + 1 - k = (g.ns.length + 1 - (k + 1)) + 1 by omega]
  conv => lhs; unfold bfs
  rw [if_pos hk]
theorem bfs_done {g : G3} {out : List Int} {k : Nat} (hk : out.length ≤ k) (f : Nat) : bfs g f k out = out := by
  cases f with
  | zero => rfl
  | succ f => unfold bfs; rw [if_neg (by omega)]
/-! What goes before stays before. -/
theorem pre_addI (n : Nat) (out : List Int) (x : Int) : out <+: addI n out x := by
  unfold addI
  split
  · exact List.prefix_append _ _
  · exact List.prefix_refl _
theorem pre_addF (n : Nat) (out : List Int) (x : V5) : out <+: addF n out x := by
  unfold addF
  split
  · exact pre_addI _ _ _
  · exact List.prefix_refl _
theorem pre_addFs (n : Nat) (fs : List V5) : ∀ (out : List Int), out <+: addFs n out fs := by
  induction fs with
  | nil => exact fun out => List.prefix_refl _
  | cons x xs ih => exact fun out => (pre_addF n out x).trans (ih _)
theorem pre_adds (n : Nat) (xs : List Int) : ∀ (out : List Int), out <+: adds n out xs := by
  induction xs with
  | nil => exact fun out => List.prefix_refl _
  | cons x xs ih => exact fun out => (pre_addI n out x).trans (ih _)
theorem pre_bfs (g : G3) (f : Nat) : ∀ (k : Nat) (out : List Int), out <+: bfs g f k out := by
  induction f with
  | zero => exact fun k out => List.prefix_refl _
  | succ f ih =>
    intro k out
    unfold bfs
    split
    · exact (pre_addFs _ _ _).trans (ih _ _)
    · exact List.prefix_refl _
theorem mem_addI {n : Nat} {out : List Int} {x y : Int} : y ∈ addI n out x ↔ y ∈ out ∨ (y = x ∧ isB n x = true) := by
  unfold addI
  split
  · rename_i h
    simp only [List.mem_append, List.mem_singleton]
    constructor
    · rintro (h1 | h1)
      · exact .inl h1
      · exact .inr ⟨h1, h.1⟩
    · rintro (h1 | ⟨h1, _⟩)
      · exact .inl h1
      · exact .inr h1
  · rename_i h
    constructor
    · exact .inl
    · rintro (h1 | ⟨h1, h2⟩)
      · exact h1
      · subst h1
        exact Classical.byContradiction fun hn => h ⟨h2, hn⟩
theorem mem_adds {n : Nat} {y : Int} (xs : List Int) : ∀ {out : List Int}, y ∈ adds n out xs ↔ y ∈ out ∨ (y ∈ xs ∧ isB n y = true) := by
  induction xs with
  | nil => intro out; simp [adds]
  | cons x xs ih =>
    intro out
    show y ∈ adds n (addI n out x) xs ↔ _
    rw [ih, mem_addI]
    constructor
    · rintro ((h | ⟨rfl, h⟩) | ⟨h, h2⟩)
      · exact .inl h
      · exact .inr ⟨List.mem_cons_self, h⟩
      · exact .inr ⟨List.mem_cons_of_mem _ h, h2⟩
    · rintro (h | ⟨h, h2⟩)
      · exact .inl (.inl h)
      · rcases List.mem_cons.1 h with rfl | h
        · exact .inl (.inr ⟨rfl, h2⟩)
        · exact .inr ⟨h, h2⟩
theorem mem_addF {n : Nat} {out : List Int} {x : V5} {y : Int} : y ∈ addF n out x ↔ y ∈ out ∨ (x.kd = 3 ∧ y = x.ref ∧ isB n y = true) := by
  unfold addF
  split
  · rename_i h
    rw [mem_addI]
    constructor
    · rintro (h1 | ⟨h1, h2⟩)
      · exact .inl h1
      · exact .inr ⟨h, h1, h1 ▸ h2⟩
    · rintro (h1 | ⟨_, h1, h2⟩)
      · exact .inl h1
      · exact .inr ⟨h1, h1 ▸ h2⟩
  · rename_i h
    constructor
    · exact .inl
    · rintro (h1 | ⟨h1, _⟩)
      · exact h1
      · exact absurd h1 h
theorem mem_addFs {n : Nat} {y : Int} (fs : List V5) : ∀ {out : List Int}, y ∈ addFs n out fs ↔ y ∈ out ∨ ∃ v ∈ fs, v.kd = 3 ∧ y = v.ref ∧ isB n y = true := by
  induction fs with
  | nil => intro out; simp [addFs]
  | cons x xs ih =>
    intro out
    show y ∈ addFs n (addF n out x) xs ↔ _
    rw [ih, mem_addF]
    constructor
    · rintro ((h | h) | ⟨v, h, h2⟩)
      · exact .inl h
      · exact .inr ⟨x, List.mem_cons_self, h⟩
      · exact .inr ⟨v, List.mem_cons_of_mem _ h, h2⟩
    · rintro (h | ⟨v, h, h2⟩)
      · exact .inl (.inl h)
      · rcases List.mem_cons.1 h with rfl | h
        · exact .inl (.inr h2)
        · exact .inr ⟨v, h, h2⟩
/-- A set of nodes that is shut. -/
def Shut (g : G3) (S : Int → Prop) : Prop := ∀ x, S x → ∀ v ∈ (nd g x).fs, v.kd = 3 → isB g.ns.length v.ref = true → S v.ref
/-- What is reached lies in each shut set that holds what it starts from. -/
theorem bfs_least {g : G3} {S : Int → Prop} (hs : Shut g S) (f : Nat) : ∀ (k : Nat) (out : List Int), (∀ x ∈ out, S x) → ∀ x ∈ bfs g f k out, S x := by
  induction f with
  | zero => exact fun k out h => h
  | succ f ih =>
    intro k out h
    unfold bfs
    split
    · rename_i hk
      refine ih _ _ fun x hx => ?_
      rcases (mem_addFs _).1 hx with hx | ⟨v, hv, h1, h2, h3⟩
      · exact h x hx
      · subst h2
        exact hs _ (h _ (mem_getD hk)) v hv h1 h3
    · exact h
theorem walk_least {g : G3} {S : Int → Prop} {xs : List Int} (hs : Shut g S) (h : ∀ x ∈ xs, isB g.ns.length x = true → S x) : ∀ x ∈ walkL g xs, S x :=
  bfs_least hs _ _ _ fun x hx => by
    rcases (mem_adds xs).1 hx with hx | ⟨h1, h2⟩
    · simp at hx
    · exact h x h1 h2
theorem walk_from {g : G3} {xs : List Int} {x : Int} (h : x ∈ xs) (hi : isB g.ns.length x = true) : x ∈ walkL g xs :=
  (pre_bfs g _ 0 _).subset ((mem_adds xs).2 (.inr ⟨h, hi⟩))
theorem bfs_shut {g : G3} (f : Nat) : ∀ (k : Nat) (out : List Int), Gd g.ns.length out → g.ns.length ≤ f + k → k ≤ out.length →
    (∀ i, i < k → ∀ v ∈ (nd g (out.getD i 0)).fs, v.kd = 3 → isB g.ns.length v.ref = true → v.ref ∈ out) →
    ∀ x ∈ bfs g f k out, ∀ v ∈ (nd g x).fs, v.kd = 3 → isB g.ns.length v.ref = true → v.ref ∈ bfs g f k out := by
  induction f with
  | zero =>
    intro k out hg hf hk h x hx
    have := gd_le hg
    unfold bfs at hx ⊢
    obtain ⟨i, hi, rfl⟩ := List.mem_iff_getElem.1 hx
    have := h i (by omega)
    rwa [List.getD_eq_getElem?_getD, List.getElem?_eq_getElem hi] at this
  | succ f ih =>
    intro k out hg hf hk h
    have hpre := pre_addFs g.ns.length (nd g (out.getD k 0)).fs out
    unfold bfs
    split
    · rename_i hlt
      refine ih _ _ (gd_addFs _ hg) (by omega) (by have := hpre.length_le; omega) fun i hi v hv h1 h2 => ?_
      have e : (addFs g.ns.length out (nd g (out.getD k 0)).fs).getD i 0 = out.getD i 0 := by
        obtain ⟨t, ht⟩ := hpre
        rw [← ht, List.getD_eq_getElem?_getD, List.getElem?_append_left (by omega), ← List.getD_eq_getElem?_getD]
      rw [e] at hv
      by_cases hik : i < k
      · exact hpre.subset (h i hik v hv h1 h2)
      · obtain rfl : i = k := by omega
        exact (mem_addFs _).2 (.inr ⟨v, hv, h1, rfl, h2⟩)
    · rename_i hlt
      obtain rfl : k = out.length := by omega
      intro x hx
      obtain ⟨i, hi, rfl⟩ := List.mem_iff_getElem.1 hx
      have := h i hi
      rwa [List.getD_eq_getElem?_getD, List.getElem?_eq_getElem hi] at this
theorem walk_shut (g : G3) (xs : List Int) : Shut g (fun x => x ∈ walkL g xs) := fun x hx v hv h1 h2 =>
  bfs_shut _ 0 _ (gd_adds xs (gd_nil _)) (by omega) (Nat.zero_le _) (fun i hi => absurd hi (Nat.not_lt_zero i)) x hx v hv h1 h2
/-- Of each node: is it reached? -/
def reachL (g : G3) (xs : List Int) : List Bool := (List.range g.ns.length).map (fun i : Nat => decide ((i : Int) ∈ walkL g xs))
theorem reachL_len (g : G3) (xs : List Int) : (reachL g xs).length = g.ns.length := by simp [reachL]
theorem reachL_at (g : G3) (xs : List Int) (i : Nat) (h : i < g.ns.length) : (reachL g xs).getD i false = decide ((i : Int) ∈ walkL g xs) := by
  rw [List.getD_eq_getElem?_getD]
  simp [reachL, h]
theorem adds_snoc (n : Nat) (out xs : List Int) (x : Int) : adds n out (xs ++ [x]) = addI n (adds n out xs) x := by
  unfold adds
  rw [List.foldl_append]
  rfl
theorem addFs_snoc (n : Nat) (out : List Int) (xs : List V5) (x : V5) : addFs n out (xs ++ [x]) = addF n (addFs n out xs) x := by
  unfold addFs
  rw [List.foldl_append]
  rfl
end Go.Proofs.YtdgclpgjoanimaaDoor.Pu
