/- How nodes are numbered makes no difference: the walk of a graph and of its image. -/
import Derived.Test.YtdgclpgjoanimaaDoorPt
namespace Go.Proofs.YtdgclpgjoanimaaDoor.Sm
open Go.Proofs.YtdgclpgjoanimaaDoor.Mb Go.Proofs.YtdgclpgjoanimaaDoor.Ba Go.Proofs.YtdgclpgjoanimaaDoor.Ma Go.Proofs.YtdgclpgjoanimaaDoor.Pu Go.Proofs.YtdgclpgjoanimaaDoor.To Go.Proofs.YtdgclpgjoanimaaDoor.Tr Go.Proofs.YtdgclpgjoanimaaDoor.Pt
set_option linter.unusedVariables false
structure Tk (φ : Int → Int) (S : Int → Prop) (v u : V5) : Prop where
  k1 : v.kd = 1 → u.kd = 1 ∧ u.n = v.n
  k2 : v.kd = 2 → u.kd = 2 ∧ u.re = v.re ∧ u.im = v.im
  k3 : v.kd = 3 → u.kd = 3 ∧ u.ref = φ v.ref ∧ S v.ref
  k0 : v.kd ≠ 1 → v.kd ≠ 2 → v.kd ≠ 3 → u.kd ≠ 1 ∧ u.kd ≠ 2 ∧ u.kd ≠ 3
/-- h is an image of g, as far as S reaches. -/
structure Sim (g h : G3) (φ : Int → Int) (S : Int → Prop) (τ : V5 → V5) (ρ : Int → Int) : Prop where
  inj : ∀ x y, S x → S y → φ x = φ y → x = y
  bg : ∀ x, S x → isB g.ns.length x = true
  bh : ∀ x, S x → isB h.ns.length (φ x) = true
  kd : ∀ x, S x → (nd h (φ x)).kd = (nd g x).kd
  fs : ∀ x, S x → (nd h (φ x)).fs = (nd g x).fs.map τ
  tk : ∀ x, S x → ∀ v ∈ (nd g x).fs, Tk φ S v (τ v)
  rs : h.rs = g.rs.map ρ
  r1 : ∀ x ∈ g.rs, isB g.ns.length x = true → S x ∧ ρ x = φ x
  r0 : ∀ x ∈ g.rs, isB g.ns.length x = false → x < 0 ∧ ρ x = x
section
variable {g h : G3} {φ : Int → Int} {S : Int → Prop} {τ : V5 → V5} {ρ : Int → Int}
theorem mem_map_inj (s : Sim g h φ S τ ρ) {out : List Int} (ho : ∀ y ∈ out, S y) {x : Int} (hx : S x) : φ x ∈ out.map φ ↔ x ∈ out := by
  rw [List.mem_map]
  constructor
  · rintro ⟨y, hy, e⟩
    rw [← s.inj y x (ho y hy) hx e]
    exact hy
  · exact fun h => ⟨x, h, rfl⟩
theorem addI_sim (s : Sim g h φ S τ ρ) {out : List Int} (ho : ∀ y ∈ out, S y) {x : Int} (hx : S x) : addI h.ns.length (out.map φ) (φ x) = (addI g.ns.length out x).map φ ∧ ∀ y ∈ addI g.ns.length out x, S y := by
  unfold addI
  rw [s.bh x hx, s.bg x hx]
  by_cases hin : x ∈ out
  · rw [if_neg (fun h => h.2 ((mem_map_inj s ho hx).2 hin)), if_neg (fun h => h.2 hin)]
    exact ⟨rfl, ho⟩
  · rw [if_pos ⟨rfl, fun h => hin ((mem_map_inj s ho hx).1 h)⟩, if_pos ⟨rfl, hin⟩]
    refine ⟨by rw [List.map_append]; rfl, fun y hy => ?_⟩
    rcases List.mem_append.1 hy with hy | hy
    · exact ho y hy
    · rw [List.mem_singleton.1 hy]; exact hx
theorem addFs_sim (s : Sim g h φ S τ ρ) : ∀ (fs : List V5), (∀ v ∈ fs, Tk φ S v (τ v)) → ∀ {out : List Int}, (∀ y ∈ out, S y) →
    addFs h.ns.length (out.map φ) (fs.map τ) = (addFs g.ns.length out fs).map φ ∧ ∀ y ∈ addFs g.ns.length out fs, S y := by
  intro fs
  induction fs with
  | nil => exact fun _ out ho => ⟨rfl, ho⟩
  | cons v fs ih =>
    intro ht out ho
    have tv := ht v List.mem_cons_self
    show addFs h.ns.length (addF h.ns.length (out.map φ) (τ v)) (fs.map τ) = (addFs g.ns.length (addF g.ns.length out v) fs).map φ ∧ ∀ y ∈ addFs g.ns.length (addF g.ns.length out v) fs, S y
    have key : addF h.ns.length (out.map φ) (τ v) = (addF g.ns.length out v).map φ ∧ ∀ y ∈ addF g.ns.length out v, S y := by
      unfold addF
      by_cases h3 : v.kd = 3
      · obtain ⟨a, b, c⟩ := tv.k3 h3
        rw [if_pos a, if_pos h3, b]
        exact addI_sim s ho c
      · have : ¬ (τ v).kd = 3 := by
          by_cases h1 : v.kd = 1
          · rw [(tv.k1 h1).1]; decide
          · by_cases h2 : v.kd = 2
            · rw [(tv.k2 h2).1]; decide
            · exact (tv.k0 h1 h2 h3).2.2
        rw [if_neg this, if_neg h3]
        exact ⟨rfl, ho⟩
    rw [key.1]
    exact ih (fun u hu => ht u (List.mem_cons_of_mem _ hu)) key.2
theorem bfs_sim (s : Sim g h φ S τ ρ) (f : Nat) : ∀ (k : Nat) (out : List Int), (∀ y ∈ out, S y) → bfs h f k (out.map φ) = (bfs g f k out).map φ ∧ ∀ y ∈ bfs g f k out, S y := by
  induction f with
  | zero => exact fun k out ho => ⟨rfl, ho⟩
  | succ f ih =>
    intro k out ho
    unfold bfs
    rw [List.length_map]
    by_cases hk : k < out.length
    · rw [if_pos hk, if_pos hk]
      have e : (out.map φ).getD k 0 = φ (out.getD k 0) := by
        rw [List.getD_eq_getElem?_getD, List.getElem?_map, List.getElem?_eq_getElem hk, List.getD_eq_getElem?_getD, List.getElem?_eq_getElem hk]
        rfl
      have hS := ho _ (mem_getD (d := (0 : Int)) hk)
      rw [e, s.fs _ hS]
      have := addFs_sim s _ (s.tk _ hS) ho
      rw [this.1]
      exact ih _ _ this.2
    · rw [if_neg hk, if_neg hk]
      exact ⟨rfl, ho⟩
theorem bfs_fuel (g : G3) (f : Nat) : ∀ (k : Nat) (out : List Int), Gd g.ns.length out → g.ns.length ≤ f + k → k ≤ out.length → ∀ d, bfs g (f + d) k out = bfs g f k out := by
  induction f with
  | zero =>
    intro k out hg hf hk d
    have := gd_le hg
    rw [bfs_done (by omega), bfs_done (by omega)]
  | succ f ih =>
    intro k out hg hf hk d
    rw [show f + 1 + d = (f + d) + 1 by omega]
    unfold bfs
    by_cases hlt : k < out.length
    · rw [if_pos hlt, if_pos hlt]
      exact ih _ _ (gd_addFs _ hg) (by omega) (by have := (pre_addFs g.ns.length (nd g (out.getD k 0)).fs out).length_le; omega) d
    · rw [if_neg hlt, if_neg hlt]
theorem adds_sim (s : Sim g h φ S τ ρ) : ∀ (xs : List Int), (∀ x ∈ xs, x ∈ g.rs) → ∀ {out : List Int}, (∀ y ∈ out, S y) →
    adds h.ns.length (out.map φ) (xs.map ρ) = (adds g.ns.length out xs).map φ ∧ ∀ y ∈ adds g.ns.length out xs, S y := by
  intro xs
  induction xs with
  | nil => exact fun _ out ho => ⟨rfl, ho⟩
  | cons x xs ih =>
    intro hx out ho
    have hm := hx x List.mem_cons_self
    show adds h.ns.length (addI h.ns.length (out.map φ) (ρ x)) (xs.map ρ) = (adds g.ns.length (addI g.ns.length out x) xs).map φ ∧ ∀ y ∈ adds g.ns.length (addI g.ns.length out x) xs, S y
    have key : addI h.ns.length (out.map φ) (ρ x) = (addI g.ns.length out x).map φ ∧ ∀ y ∈ addI g.ns.length out x, S y := by
      cases hb : isB g.ns.length x
      · obtain ⟨a, b⟩ := s.r0 x hm hb
        unfold addI
        have : isB h.ns.length (ρ x) = false := by rw [b]; unfold isB; rw [decide_eq_false (by omega)]; rfl
        rw [hb, this, if_neg (by simp), if_neg (by simp)]
        exact ⟨rfl, ho⟩
      · obtain ⟨a, b⟩ := s.r1 x hm hb
        rw [b]
        exact addI_sim s ho a
    rw [key.1]
    exact ih (fun y hy => hx y (List.mem_cons_of_mem _ hy)) key.2
theorem walk_sim (s : Sim g h φ S τ ρ) : walkL h h.rs = (walkL g g.rs).map φ ∧ ∀ y ∈ walkL g g.rs, S y := by
  have h1 := adds_sim s g.rs (fun x hx => hx) (out := []) (by simp)
  have h2 := bfs_sim s (g.ns.length + h.ns.length + 1) 0 _ h1.2
  have f1 := bfs_fuel g (g.ns.length + 1) 0 (adds g.ns.length [] g.rs) (gd_adds _ (gd_nil _)) (by omega) (Nat.zero_le _) h.ns.length
  have f2 := bfs_fuel h (h.ns.length + 1) 0 (adds h.ns.length [] h.rs) (gd_adds _ (gd_nil _)) (by omega) (Nat.zero_le _) g.ns.length
  rw [show g.ns.length + 1 + h.ns.length = g.ns.length + h.ns.length + 1 by omega] at f1
  rw [show h.ns.length + 1 + g.ns.length = g.ns.length + h.ns.length + 1 by omega] at f2
  unfold walkL
  rw [← f1, ← f2]
  rw [show adds h.ns.length [] h.rs = (adds g.ns.length [] g.rs).map φ by rw [s.rs]; exact h1.1]
  exact h2
theorem idx_map {W : List Int} {x : Int} (hi : ∀ y ∈ W, φ y = φ x → y = x) : (W.map φ).idxOf (φ x) = W.idxOf x ∧ (φ x ∈ W.map φ ↔ x ∈ W) := by
  induction W with
  | nil => simp
  | cons y W ih =>
    have ih2 := ih (fun z hz => hi z (List.mem_cons_of_mem _ hz))
    have hy := hi y List.mem_cons_self
    rw [List.map_cons, List.idxOf_cons, List.idxOf_cons]
    by_cases e : y = x
    · subst e; simp
    · have e2 : ¬ φ y = φ x := fun h => e (hy h)
      have b1 : (φ y == φ x) = false := by rw [beq_eq_false_iff_ne]; exact e2
      have b2 : (y == x) = false := by rw [beq_eq_false_iff_ne]; exact e
      rw [b1, b2, ih2.1]
      refine ⟨rfl, ?_⟩
      rw [List.mem_cons, List.mem_cons, ih2.2]
      constructor
      · rintro (h | h)
        · exact absurd h.symm e2
        · exact .inr h
      · rintro (h | h)
        · exact absurd h.symm e
        · exact .inr h
theorem place_map {W : List Int} {x : Int} (hi : ∀ y ∈ W, φ y = φ x → y = x) : placeF (W.map φ) (φ x) = placeF W x := by
  obtain ⟨a, b⟩ := idx_map hi
  unfold placeF
  rw [a]
  by_cases hx : x ∈ W
  · rw [if_pos (b.2 hx), if_pos hx]
  · rw [if_neg (fun h => hx (b.1 h)), if_neg hx]
/-- The images are trimmed alike. -/
theorem trim_sim (s : Sim g h φ S τ ρ) {σ : Int → Int} (hws : h.ws = g.ws.map σ)
    (hw : ∀ x ∈ g.ws, mv (placeL h.ns.length ((walkL g g.rs).map φ)) (σ x) = mv (placeL g.ns.length (walkL g g.rs)) x) : trimW h (walkL h h.rs) = trimW g (walkL g g.rs) := by
  obtain ⟨e, hS⟩ := walk_sim s
  rw [e]
  obtain ⟨W, hW⟩ : ∃ W, walkL g g.rs = W := ⟨_, rfl⟩
  rw [hW] at hS hw ⊢
  have hpl : ∀ x, S x → placeF (W.map φ) (φ x) = placeF W x := fun x hx => place_map fun y hy e => s.inj y x (hS y hy) hx e
  have hmv : ∀ x, S x → mv (placeL h.ns.length (W.map φ)) (φ x) = mv (placeL g.ns.length W) x := by
    intro x hx
    have b1 := isB_iff.1 (s.bg x hx)
    have b2 := isB_iff.1 (s.bh x hx)
    unfold mv
    rw [if_pos b1.1, if_pos b2.1, pl_at (s.bg x hx), pl_at (s.bh x hx), hpl x hx]
  unfold trimW
  congr 1
  · rw [List.map_map]
    refine List.map_congr_left fun x hx => ?_
    have hx := hS x hx
    show nodeT h _ (φ x) = nodeT g _ x
    unfold nodeT
    rw [s.kd x hx, s.fs x hx, List.map_map]
    congr 1
    refine List.map_congr_left fun v hv => ?_
    have tv := s.tk x hx v hv
    show toldP _ (τ v) = toldP _ v
    unfold toldP
    by_cases h1 : v.kd = 1
    · obtain ⟨a, b⟩ := tv.k1 h1
      rw [if_pos a, if_pos h1, b]
    · by_cases h2 : v.kd = 2
      · obtain ⟨a, b, c⟩ := tv.k2 h2
        rw [if_neg (by rw [a]; decide), if_pos a, if_neg h1, if_pos h2, b, c]
      · by_cases h3 : v.kd = 3
        · obtain ⟨a, b, c⟩ := tv.k3 h3
          rw [if_neg (by rw [a]; decide), if_neg (by rw [a]; decide), if_pos a, if_neg h1, if_neg h2, if_pos h3, b, pl_at (s.bh _ c), pl_at (s.bg _ c), hpl _ c]
        · obtain ⟨a, b, c⟩ := tv.k0 h1 h2 h3
          rw [if_neg a, if_neg b, if_neg c, if_neg h1, if_neg h2, if_neg h3]
  · rw [s.rs]
    unfold movedL
    rw [List.map_map]
    refine List.map_congr_left fun x hx => ?_
    show mv _ (ρ x) = mv _ x
    cases hb : isB g.ns.length x
    · obtain ⟨a, b⟩ := s.r0 x hx hb
      rw [b]
      unfold mv
      rw [if_neg (by omega), if_neg (by omega)]
    · obtain ⟨a, b⟩ := s.r1 x hx hb
      rw [b]
      exact hmv x a
  · rw [hws]
    unfold movedL
    rw [List.map_map]
    exact List.map_congr_left fun x hx => hw x hx
end
/-! A trimmed graph is its own. -/
theorem told_tk {n : Nat} {W : List Int} {S : Int → Prop} {v : V5} (hr : v.kd = 3 → isB n v.ref = true ∧ S v.ref) : Tk (placeF W) S v (toldP (placeL n W) v) := by
  refine ⟨fun h => ?_, fun h => ?_, fun h => ?_, fun h1 h2 h3 => ?_⟩
  · unfold toldP; rw [if_pos h]; exact ⟨rfl, rfl⟩
  · unfold toldP; rw [if_neg (by rw [h]; decide), if_pos h]; exact ⟨rfl, rfl, rfl⟩
  · unfold toldP; rw [if_neg (by rw [h]; decide), if_neg (by rw [h]; decide), if_pos h]
    exact ⟨rfl, pl_at (hr h).1, (hr h).2⟩
  · unfold toldP; rw [if_neg h1, if_neg h2, if_neg h3]; decide
theorem sim_trim {g : G3} (hm : mayG g = true) {W : List Int} (hW : W = walkL g g.rs) : Sim g (trimW g W) (placeF W) (fun x => x ∈ W) (toldP (placeL g.ns.length W)) (mv (placeL g.ns.length W)) := by
  have hlen : (trimW g W).ns.length = W.length := by simp [trimW]
  have hg := gd_walk g g.rs
  rw [← hW] at hg
  refine ⟨?_, fun x hx => hg.2 x hx, ?_, ?_, ?_, ?_, rfl, ?_, ?_⟩
  · intro x y hx hy e
    obtain ⟨a, la⟩ := place_in hx
    obtain ⟨b, lb⟩ := place_in hy
    rw [a, b] at e
    have e : W.idxOf x = W.idxOf y := by omega
    have h1 := List.getElem_idxOf la
    have h2 := List.getElem_idxOf lb
    simp only [e] at h1
    rw [h1] at h2
    exact h2
  · intro x hx
    obtain ⟨a, la⟩ := place_in hx
    rw [hlen, isB_iff, a]
    omega
  · intro x hx
    rw [nd_trim hx]; rfl
  · intro x hx
    rw [nd_trim hx]; rfl
  · intro x hx v hv
    refine told_tk fun h3 => ?_
    have hb := isB_iff.1 (hg.2 x hx)
    have hu := may_fields hm (nd g x) (by unfold nd; exact mem_getD (by omega)) v hv h3
    refine ⟨isB_iff.2 hu, ?_⟩
    have := walk_shut g g.rs x (hW ▸ hx) v hv h3 (isB_iff.2 hu)
    rwa [← hW] at this
  · intro x hx hb
    have hxW : x ∈ W := by rw [hW]; exact walk_from hx hb
    refine ⟨hxW, ?_⟩
    unfold mv
    rw [if_pos (isB_iff.1 hb).1, pl_at hb]
  · intro x hx hb
    have h1 := (may_roots hm).1 x hx
    have : x < 0 := by
      rcases Int.lt_or_le x 0 with h | h
      · exact h
      · rw [isB_iff.2 ⟨h, h1.2⟩] at hb; cases hb
    exact ⟨this, by unfold mv; rw [if_neg (by omega)]⟩
theorem trim_trim {g : G3} (hm : mayG g = true) : trimL (trimL g) = trimL g := by
  have e1 : trimL g = trimW g (walkL g g.rs) := by unfold trimL; rw [hm]; rfl
  obtain ⟨W, hW⟩ : ∃ W, walkL g g.rs = W := ⟨_, rfl⟩
  rw [e1, hW]
  have hmt := trim_may hm hW.symm
  have e2 : trimL (trimW g W) = trimW (trimW g W) (walkL (trimW g W) (trimW g W).rs) := by unfold trimL; rw [hmt]; rfl
  rw [e2]
  have s := sim_trim hm hW.symm
  have := trim_sim s (σ := mv (placeL g.ns.length W)) rfl (fun x hx => by
    rw [hW]
    have hlen : (trimW g W).ns.length = W.length := by simp [trimW]
    have h1 := (may_roots hm).2 x hx
    by_cases h0 : 0 ≤ x
    · have hb := isB_iff.2 ⟨h0, h1.2⟩
      have em : mv (placeL g.ns.length W) x = placeF W x := by unfold mv; rw [if_pos h0, pl_at hb]
      rw [em]
      by_cases hx : x ∈ W
      · obtain ⟨a, la⟩ := place_in hx
        have hb2 : isB (trimW g W).ns.length (placeF W x) = true := s.bh x hx
        unfold mv
        rw [if_pos (isB_iff.1 hb2).1, pl_at hb2]
        exact place_map fun y hy e => s.inj y x hy hx e
      · have : placeF W x = -1 := by unfold placeF; rw [if_neg hx]
        rw [this]; rfl
    · have em : mv (placeL g.ns.length W) x = x := by unfold mv; rw [if_neg h0]
      rw [em]
      unfold mv
      rw [if_neg h0])
  rw [this, hW]
theorem walk_trim {g : G3} (hm : mayG g = true) {W : List Int} (hW : W = walkL g g.rs) : walkL (trimW g W) (trimW g W).rs = (List.range W.length).map (fun i : Nat => (i : Int)) := by
  have hg := gd_walk g g.rs
  rw [← hW] at hg
  rw [(walk_sim (sim_trim hm hW)).1, ← hW]
  refine List.ext_getElem (by simp) fun i h1 h2 => ?_
  rw [List.length_map] at h1
  rw [List.getElem_map, List.getElem_map, List.getElem_range]
  have hx : W[i] = W.getD i 0 := by rw [List.getD_eq_getElem?_getD, List.getElem?_eq_getElem h1]; rfl
  rw [hx, (place_in (mem_getD h1)).1, idx_getD hg.1 h1]
end Go.Proofs.YtdgclpgjoanimaaDoor.Sm
