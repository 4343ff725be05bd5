/- What a trimmed graph is, in plain lists. -/
import Derived.Test.YtdgclpgjoanimaaDoorTr
namespace Go.Proofs.YtdgclpgjoanimaaDoor.Pt
open Go.Proofs.YtdgclpgjoanimaaDoor.Mb Go.Proofs.YtdgclpgjoanimaaDoor.Ba Go.Proofs.YtdgclpgjoanimaaDoor.Ma Go.Proofs.YtdgclpgjoanimaaDoor.Pu Go.Proofs.YtdgclpgjoanimaaDoor.To Go.Proofs.YtdgclpgjoanimaaDoor.Tr
set_option linter.unusedVariables false
theorem place_in {W : List Int} {x : Int} (h : x ∈ W) : placeF W x = (W.idxOf x : Int) ∧ W.idxOf x < W.length := by
  unfold placeF
  rw [if_pos h]
  exact ⟨rfl, List.idxOf_lt_length_iff.2 h⟩
theorem pl_at {n : Nat} {W : List Int} {x : Int} (h : isB n x = true) : (placeL n W).getD x.toNat 0 = placeF W x := by
  obtain ⟨h0, h1⟩ := isB_iff.1 h
  rw [placeL_at n W _ (by omega), Int.toNat_of_nonneg h0]
theorem nd_trim {g : G3} {W : List Int} {x : Int} (h : x ∈ W) : nd (trimW g W) (placeF W x) = nodeT g (placeL g.ns.length W) x := by
  obtain ⟨e, hl⟩ := place_in h
  unfold nd trimW
  rw [e, Int.toNat_natCast]
  simp only
  rw [List.getD_eq_getElem?_getD, List.getElem?_map, List.getElem?_eq_getElem hl]
  simp
/-- The trimmed graph reaches all that it has. -/
theorem trim_all {g : G3} {W : List Int} (hW : W = walkL g g.rs) : ∀ x ∈ W, placeF W x ∈ walkL (trimW g W) (trimW g W).rs := by
  have hlen : (trimW g W).ns.length = W.length := by simp [trimW]
  have hb : ∀ x ∈ W, isB (trimW g W).ns.length (placeF W x) = true := fun x hx => by
    obtain ⟨e, hl⟩ := place_in hx
    rw [hlen, isB_iff, e]
    omega
  have hin : ∀ x ∈ W, isB g.ns.length x = true := fun x hx => (gd_walk g g.rs).2 x (hW ▸ hx)
  have key := walk_least (g := g) (xs := g.rs) (S := fun x => x ∈ W ∧ placeF W x ∈ walkL (trimW g W) (trimW g W).rs) (fun x hx v hv h3 hi => by
    have hvW : v.ref ∈ W := by
      have := walk_shut g g.rs x (hW ▸ hx.1) v hv h3 hi
      rwa [← hW] at this
    refine ⟨hvW, ?_⟩
    have hm : toldP (placeL g.ns.length W) v ∈ (nd (trimW g W) (placeF W x)).fs := by
      rw [nd_trim hx.1]
      exact List.mem_map.2 ⟨v, hv, rfl⟩
    have e : toldP (placeL g.ns.length W) v = ⟨3, 0, 0, 0, placeF W v.ref⟩ := by
      unfold toldP
      rw [if_neg (by rw [h3]; decide), if_neg (by rw [h3]; decide), if_pos h3, pl_at hi]
    rw [e] at hm
    exact walk_shut (trimW g W) _ _ hx.2 _ hm rfl (hb _ hvW)) (fun x hx hi => by
    have hxW : x ∈ W := by rw [hW]; exact walk_from hx hi
    refine ⟨hxW, walk_from ?_ (hb x hxW)⟩
    obtain ⟨h0, h1⟩ := isB_iff.1 hi
    show placeF W x ∈ movedL (placeL g.ns.length W) g.rs
    refine List.mem_map.2 ⟨x, hx, ?_⟩
    unfold mv
    rw [if_pos h0, pl_at hi])
  exact fun x hx => (key x (hW ▸ hx)).2
theorem idx_getD {W : List Int} (hn : W.Nodup) {i : Nat} (hi : i < W.length) : W.idxOf (W.getD i 0) = i := by
  have hm : W.getD i 0 ∈ W := mem_getD hi
  have hl := List.idxOf_lt_length_iff.2 hm
  have e : W[W.idxOf (W.getD i 0)] = W[i] := by
    rw [List.getElem_idxOf]
    rw [List.getD_eq_getElem?_getD, List.getElem?_eq_getElem hi]
    rfl
  exact (List.getElem_inj hn).1 e
theorem trim_reach {g : G3} {W : List Int} (hW : W = walkL g g.rs) : reachL (trimW g W) (trimW g W).rs = List.replicate W.length true := by
  have hlen : (trimW g W).ns.length = W.length := by simp [trimW]
  refine List.ext_getElem (by rw [reachL_len, hlen, List.length_replicate]) fun i h1 h2 => ?_
  rw [reachL_len, hlen] at h1
  have hg := gd_walk g g.rs
  rw [← hW] at hg
  have ha := reachL_at (trimW g W) (trimW g W).rs i (by rw [hlen]; exact h1)
  rw [List.getD_eq_getElem?_getD, List.getElem?_eq_getElem (show i < (reachL (trimW g W) (trimW g W).rs).length by rw [reachL_len, hlen]; exact h1)] at ha
  · rw [show ∀ (b : Bool), (some b).getD false = b from fun _ => rfl] at ha
    rw [ha, List.getElem_replicate]
    have := trim_all hW (W.getD i 0) (mem_getD h1)
    rw [(place_in (mem_getD h1)).1, idx_getD hg.1 h1] at this
    exact decide_eq_true this
theorem place_range {W : List Int} {x : Int} : -1 ≤ placeF W x ∧ placeF W x < (W.length : Int) := by
  unfold placeF
  split
  · rename_i h
    have := List.idxOf_lt_length_iff.2 h
    omega
  · omega
theorem trim_may {g : G3} {W : List Int} (hm : mayG g = true) (hW : W = walkL g g.rs) : mayG (trimW g W) = true := by
  have hlen : (trimW g W).ns.length = W.length := by simp [trimW]
  have hWl : W.length ≤ g.ns.length := by rw [hW]; exact gd_le (gd_walk g g.rs)
  have hn := Re.may_len hm
  have hr := may_roots hm
  have hmv : ∀ x, -1 ≤ x → x < (g.ns.length : Int) → rootB W.length (mv (placeL g.ns.length W) x) = true := by
    intro x h1 h2
    unfold mv rootB
    by_cases h0 : 0 ≤ x
    · rw [if_pos h0, pl_at (isB_iff.2 ⟨h0, h2⟩)]
      obtain ⟨a, b⟩ := place_range (W := W) (x := x)
      by_cases h3 : placeF W x = -1
      · simp [h3]
      · rw [show isB W.length (placeF W x) = true from isB_iff.2 ⟨by omega, b⟩]; simp
    · rw [if_neg h0, show x = -1 by omega]; rfl
  unfold mayG
  rw [hlen]
  simp only [Bool.and_eq_true, decide_eq_true_eq, List.all_eq_true]
  refine ⟨⟨by omega, ?_⟩, ?_⟩
  · intro x hx
    rcases List.mem_append.1 hx with hx | hx
    · obtain ⟨y, hy, rfl⟩ := List.mem_map.1 (show x ∈ movedL (placeL g.ns.length W) g.rs from hx)
      exact hmv y (hr.1 y hy).1 (hr.1 y hy).2
    · obtain ⟨y, hy, rfl⟩ := List.mem_map.1 (show x ∈ movedL (placeL g.ns.length W) g.ws from hx)
      exact hmv y (hr.2 y hy).1 (hr.2 y hy).2
  · intro x hx v hv
    obtain ⟨y, hy, rfl⟩ := List.mem_map.1 (show x ∈ W.map (nodeT g (placeL g.ns.length W)) from hx)
    obtain ⟨u, hu, rfl⟩ := List.mem_map.1 (show v ∈ (nd g y).fs.map (toldP (placeL g.ns.length W)) from hv)
    unfold toldP
    by_cases e1 : u.kd = 1
    · rw [if_pos e1]; rfl
    · rw [if_neg e1]
      by_cases e2 : u.kd = 2
      · rw [if_pos e2]; rfl
      · rw [if_neg e2]
        by_cases e3 : u.kd = 3
        · rw [if_pos e3]
          have hyb := isB_iff.1 ((gd_walk g g.rs).2 y (hW ▸ hy))
          have hu2 := may_fields hm (nd g y) (by unfold nd; exact mem_getD (by omega)) u hu e3
          have hib : isB g.ns.length u.ref = true := isB_iff.2 hu2
          have huW : u.ref ∈ W := by
            have := walk_shut g g.rs y (hW ▸ hy) u hu e3 hib
            rwa [← hW] at this
          rw [pl_at hib]
          obtain ⟨e, hl⟩ := place_in huW
          unfold fieldB
          rw [show isB W.length (⟨3, 0, 0, 0, placeF W u.ref⟩ : V5).ref = true from isB_iff.2 ⟨by show 0 ≤ placeF W u.ref; rw [e]; omega, place_range.2⟩]
          rfl
        · rw [if_neg e3]; rfl
theorem trim_sz {g : G3} {W : List Int} (hz : Sz g) (hW : W = walkL g g.rs) : Sz (trimW g W) := by
  refine ⟨?_, ?_, ?_⟩
  · show (movedL _ g.rs).length ≤ 1000
    unfold movedL; rw [List.length_map]; exact hz.r
  · show (movedL _ g.ws).length ≤ 1000
    unfold movedL; rw [List.length_map]; exact hz.s
  · intro x hx
    obtain ⟨y, hy, rfl⟩ := List.mem_map.1 (show x ∈ W.map (nodeT g (placeL g.ns.length W)) from hx)
    show ((nd g y).fs.map _).length ≤ 1000
    rw [List.length_map]
    have hyb := isB_iff.1 ((gd_walk g g.rs).2 y (hW ▸ hy))
    exact hz.f _ (by unfold nd; exact mem_getD (by omega))
/-- How many are reached. -/
def cnt (n : Nat) (W : List Int) : Nat := ((List.range n).filter (fun i : Nat => decide ((i : Int) ∈ W))).length
theorem cnt_succ (n : Nat) (W : List Int) : cnt (n + 1) W = cnt n W + if (n : Int) ∈ W then 1 else 0 := by
  unfold cnt
  rw [List.range_succ, List.filter_append, List.length_append]
  congr 1
  simp only [List.filter_cons, List.filter_nil]
  split <;> simp_all
theorem cnt_le (n : Nat) (W : List Int) : cnt n W ≤ n := by
  induction n with
  | zero => simp [cnt]
  | succ n ih => rw [cnt_succ]; split <;> omega
theorem cnt_erase (n : Nat) (W : List Int) (hW : W.Nodup) : cnt n W = (W.filter (fun x => isB n x)).length := by
  induction n with
  | zero =>
    have : W.filter (fun x => isB 0 x) = [] := by
      rw [List.filter_eq_nil_iff]
      intro x _
      unfold isB
      simp
    rw [this]; rfl
  | succ n ih =>
    rw [cnt_succ, ih]
    clear ih
    induction W with
    | nil => simp
    | cons x xs ihx =>
      have hx := (List.nodup_cons.1 hW).1
      have ih2 := ihx (List.nodup_cons.1 hW).2
      by_cases hxn : x = (n : Int)
      · subst hxn
        rw [if_pos List.mem_cons_self]
        rw [if_neg hx] at ih2
        have e1 : isB n (n : Int) = false := by unfold isB; simp
        have e2 : isB (n + 1) (n : Int) = true := isB_iff.2 ⟨by omega, by omega⟩
        rw [List.filter_cons, List.filter_cons, e1, e2]
        simp only [Bool.false_eq_true, if_false, if_true, List.length_cons]
        omega
      · have hm : ((n : Int) ∈ x :: xs) ↔ (n : Int) ∈ xs := by
          rw [List.mem_cons]
          exact ⟨fun h => h.resolve_left (fun e => hxn e.symm), .inr⟩
        have e3 : isB (n + 1) x = isB n x := by
          unfold isB
          by_cases h : x < (n : Int)
          · simp [h]; omega
          · have : ¬ x < ((n + 1 : Nat) : Int) := by omega
            simp only [decide_eq_false h, decide_eq_false this]
        simp only [hm]
        rw [List.filter_cons, List.filter_cons, e3]
        split
        · simp only [List.length_cons]; omega
        · exact ih2
theorem cnt_walk (g : G3) (xs : List Int) : cnt g.ns.length (walkL g xs) = (walkL g xs).length := by
  have hg := gd_walk g xs
  rw [cnt_erase _ _ hg.1]
  congr 1
  rw [List.filter_eq_self]
  exact hg.2
/-- The next place of a root. -/
def nxt (g : G3) (k : Nat) : Nat := (adds g.ns.length [] (g.rs.take k)).length
theorem root_step {g : G3} (hm : mayG g = true) {k : Nat} (hk : k < g.rs.length) :
    (g.rs.getD k 0 < 0 ∧ mv (placeL g.ns.length (walkL g g.rs)) (g.rs.getD k 0) < 0 ∧ nxt g (k + 1) = nxt g k) ∨
    (0 ≤ g.rs.getD k 0 ∧ 0 ≤ mv (placeL g.ns.length (walkL g g.rs)) (g.rs.getD k 0) ∧ mv (placeL g.ns.length (walkL g g.rs)) (g.rs.getD k 0) < (nxt g k : Int) ∧ nxt g (k + 1) = nxt g k) ∨
    (0 ≤ g.rs.getD k 0 ∧ mv (placeL g.ns.length (walkL g g.rs)) (g.rs.getD k 0) = (nxt g k : Int) ∧ nxt g (k + 1) = nxt g k + 1) := by
  have hmem := mem_getD (d := (0 : Int)) hk
  have hr := (may_roots hm).1 _ hmem
  have hstep : adds g.ns.length [] (g.rs.take (k + 1)) = addI g.ns.length (adds g.ns.length [] (g.rs.take k)) (g.rs.getD k 0) := by rw [take_snoc g.rs 0 k hk, adds_snoc]
  have hpre : adds g.ns.length [] (g.rs.take (k + 1)) <+: walkL g g.rs := by
    have h1 : adds g.ns.length [] g.rs = adds g.ns.length (adds g.ns.length [] (g.rs.take (k + 1))) (g.rs.drop (k + 1)) := by
      unfold adds
      rw [← List.foldl_append, List.take_append_drop]
    have h2 := pre_adds g.ns.length (g.rs.drop (k + 1)) (adds g.ns.length [] (g.rs.take (k + 1)))
    rw [← h1] at h2
    exact h2.trans (pre_bfs g _ 0 _)
  obtain ⟨x, hx⟩ : ∃ x, g.rs.getD k 0 = x := ⟨_, rfl⟩
  rw [hx] at hr hstep hmem ⊢
  by_cases h0 : 0 ≤ x
  · have hib : isB g.ns.length x = true := isB_iff.2 ⟨h0, hr.2⟩
    have emv : mv (placeL g.ns.length (walkL g g.rs)) x = placeF (walkL g g.rs) x := by unfold mv; rw [if_pos h0, pl_at hib]
    rw [emv]
    have hxW := walk_from hmem hib
    obtain ⟨e, hl⟩ := place_in hxW
    rw [e]
    obtain ⟨s, hs⟩ := hpre
    by_cases hin : x ∈ adds g.ns.length [] (g.rs.take k)
    · right; left
      have e1 : adds g.ns.length [] (g.rs.take (k + 1)) = adds g.ns.length [] (g.rs.take k) := by rw [hstep]; unfold addI; rw [if_neg (fun h => h.2 hin)]
      refine ⟨h0, by omega, ?_, by unfold nxt; rw [e1]⟩
      rw [e1] at hs
      rw [← hs, List.idxOf_append, if_pos hin]
      have := List.idxOf_lt_length_iff.2 hin
      unfold nxt
      omega
    · right; right
      have e1 : adds g.ns.length [] (g.rs.take (k + 1)) = adds g.ns.length [] (g.rs.take k) ++ [x] := by rw [hstep]; unfold addI; rw [if_pos ⟨hib, hin⟩]
      refine ⟨h0, ?_, by unfold nxt; rw [e1, List.length_append]; rfl⟩
      rw [e1] at hs
      rw [← hs, List.idxOf_append, if_pos (by simp), List.idxOf_append, if_neg hin]
      unfold nxt
      simp
  · left
    have emv : mv (placeL g.ns.length (walkL g g.rs)) x = x := by unfold mv; rw [if_neg h0]
    rw [emv]
    have e1 : adds g.ns.length [] (g.rs.take (k + 1)) = adds g.ns.length [] (g.rs.take k) := by
      rw [hstep]; unfold addI; rw [if_neg (fun h => h0 (isB_iff.1 h.1).1)]
    exact ⟨by omega, by omega, by unfold nxt; rw [e1]⟩
theorem nxt_le (g : G3) (k : Nat) : nxt g k ≤ g.ns.length := gd_le (gd_adds _ (gd_nil _))
end Go.Proofs.YtdgclpgjoanimaaDoor.Pt
