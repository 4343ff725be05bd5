/- Graphs whose nodes stand otherwise, in plain lists: turned, with one node more, with one field more. -/
import Derived.Test.YtdgclpgjoanimaaDoorSm
import Derived.Test.YtdgclpgjoanimaaDoorEq
namespace Go.Proofs.YtdgclpgjoanimaaDoor.Tp
open Go.Proofs.YtdgclpgjoanimaaDoor.Mb Go.Proofs.YtdgclpgjoanimaaDoor.Ba Go.Proofs.YtdgclpgjoanimaaDoor.Ma Go.Proofs.YtdgclpgjoanimaaDoor.Pu Go.Proofs.YtdgclpgjoanimaaDoor.To Go.Proofs.YtdgclpgjoanimaaDoor.Tr Go.Proofs.YtdgclpgjoanimaaDoor.Pt Go.Proofs.YtdgclpgjoanimaaDoor.Sm Go.Proofs.YtdgclpgjoanimaaDoor.Eq
set_option linter.unusedVariables false
def tat (n b : Nat) (x : Int) : Int := if x < 0 then x else if x + b < n then x + b else x + b - n
def tin (n b : Nat) (j : Int) : Int := if b ≤ j then j - b else j + n - b
theorem tat_mod {n b : Nat} {x : Int} (h0 : 0 ≤ x) (h1 : x < (n : Int)) (hb : b < n) : (x + (b : Int)).tmod (n : Int) = tat n b x := by
  unfold tat
  rw [Int.tmod_eq_emod_of_nonneg (by omega), if_neg (by omega)]
  split
  · exact Int.emod_eq_of_lt (by omega) (by omega)
  · rename_i h
    have e : (x + (b : Int)) = (x + b - n) + n := by omega
    rw [e, Int.add_emod_right, Int.emod_eq_of_lt (by omega) (by omega)]
    omega
def plainV (v : V5) : V5 := if v.kd = 1 then ⟨1, v.n, 0, 0, 0⟩ else if v.kd = 2 then ⟨2, 0, v.re, v.im, 0⟩ else if v.kd = 3 then ⟨3, 0, 0, 0, v.ref⟩ else ⟨v.kd, 0, 0, 0, 0⟩
def tval (n b : Nat) (v : V5) : V5 := if v.kd = 3 then ⟨3, 0, 0, 0, tat n b v.ref⟩ else plainV v
def tnode (g : G3) (b : Nat) (x : Int) : N2 := ⟨(nd g x).kd, (nd g x).fs.map (tval g.ns.length b)⟩
def turnG (g : G3) (b : Nat) : G3 := ⟨(List.range g.ns.length).map (fun j : Nat => tnode g b (tin g.ns.length b (j : Int))), g.rs.map (tat g.ns.length b), g.ws.map (tat g.ns.length b)⟩
theorem turn_len (g : G3) (b : Nat) : (turnG g b).ns.length = g.ns.length := by simp [turnG]
theorem tat_in {n b : Nat} {x : Int} (h : isB n x = true) (hb : b < n) : isB n (tat n b x) = true ∧ tin n b (tat n b x) = x := by
  obtain ⟨h0, h1⟩ := isB_iff.1 h
  rw [isB_iff]
  unfold tat tin
  rw [if_neg (by omega)]
  split
  · exact ⟨⟨by omega, by omega⟩, by split <;> omega⟩
  · exact ⟨⟨by omega, by omega⟩, by split <;> omega⟩
theorem nd_turn {g : G3} {b : Nat} {x : Int} (h : isB g.ns.length x = true) (hb : b < g.ns.length) : nd (turnG g b) (tat g.ns.length b x) = tnode g b x := by
  obtain ⟨h1, h2⟩ := tat_in h hb
  obtain ⟨h3, h4⟩ := isB_iff.1 h1
  unfold nd turnG
  simp only
  rw [List.getD_eq_getElem?_getD, List.getElem?_map, List.getElem?_range (by omega)]
  simp only [Option.map_some, Option.getD_some]
  rw [Int.toNat_of_nonneg h3, h2]
theorem tval_tk {n b : Nat} {S : Int → Prop} {v : V5} (hr : v.kd = 3 → S v.ref) : Tk (tat n b) S v (tval n b v) := by
  refine ⟨fun h => ?_, fun h => ?_, fun h => ?_, fun h1 h2 h3 => ?_⟩
  · unfold tval plainV; rw [if_neg (by rw [h]; decide), if_pos h]; exact ⟨rfl, rfl⟩
  · unfold tval plainV; rw [if_neg (by rw [h]; decide), if_neg (by rw [h]; decide), if_pos h]; exact ⟨rfl, rfl, rfl⟩
  · unfold tval; rw [if_pos h]; exact ⟨rfl, rfl, hr h⟩
  · unfold tval plainV; rw [if_neg h3, if_neg h1, if_neg h2, if_neg h3]; exact ⟨h1, h2, h3⟩
theorem may_nd {g : G3} (hm : mayG g = true) {x : Int} (hx : isB g.ns.length x = true) : ∀ v ∈ (nd g x).fs, v.kd = 3 → isB g.ns.length v.ref = true := fun v hv h3 => by
  have hb := isB_iff.1 hx
  exact isB_iff.2 (may_fields hm (nd g x) (by unfold nd; exact mem_getD (by omega)) v hv h3)
theorem root_neg {g : G3} (hm : mayG g = true) {x : Int} (hx : x ∈ g.rs ∨ x ∈ g.ws) (hb : isB g.ns.length x = false) : x < 0 := by
  have h1 : x < (g.ns.length : Int) := by
    rcases hx with hx | hx
    · exact ((may_roots hm).1 x hx).2
    · exact ((may_roots hm).2 x hx).2
  rcases Int.lt_or_le x 0 with h | h
  · exact h
  · rw [isB_iff.2 ⟨h, h1⟩] at hb; cases hb
theorem sim_turn {g : G3} (hm : mayG g = true) {b : Nat} (hb : b < g.ns.length) : Sim g (turnG g b) (tat g.ns.length b) (fun x => isB g.ns.length x = true) (tval g.ns.length b) (tat g.ns.length b) := by
  refine ⟨fun x y hx hy e => ?_, fun x hx => hx, fun x hx => ?_, fun x hx => ?_, fun x hx => ?_, fun x hx v hv => tval_tk (may_nd hm hx v hv), rfl, fun x hx h => ⟨h, rfl⟩, fun x hx h => ?_⟩
  · have h1 := (tat_in hx hb).2
    have h2 := (tat_in hy hb).2
    rw [e, h2] at h1
    exact h1.symm
  · rw [turn_len]; exact (tat_in hx hb).1
  · rw [nd_turn hx hb]; rfl
  · rw [nd_turn hx hb]; rfl
  · have hn := root_neg hm (.inl hx) h
    exact ⟨hn, by unfold tat; rw [if_pos hn]⟩
/-- What a weak root's place is in an image of all nodes. -/
theorem weak_sim {g h : G3} {φ : Int → Int} {τ : V5 → V5} {ρ : Int → Int} (s : Sim g h φ (fun x => isB g.ns.length x = true) τ ρ) {x y : Int} (hx : (isB g.ns.length x = true ∧ y = φ x) ∨ (x < 0 ∧ y = x)) :
    mv (placeL h.ns.length ((walkL g g.rs).map φ)) y = mv (placeL g.ns.length (walkL g g.rs)) x := by
  rcases hx with ⟨hx, rfl⟩ | ⟨hx, rfl⟩
  · have b1 := isB_iff.1 hx
    have b2 := isB_iff.1 (s.bh x hx)
    unfold mv
    rw [if_pos b1.1, if_pos b2.1, pl_at hx, pl_at (s.bh x hx)]
    exact place_map fun z hz e => s.inj z x ((gd_walk g g.rs).2 z hz) hx e
  · unfold mv
    rw [if_neg (by omega), if_neg (by omega)]
theorem trim_of {g : G3} (h : mayG g = true) : trimL g = trimW g (walkL g g.rs) := by unfold trimL; rw [h]; rfl
theorem may_turn {g : G3} (hm : mayG g = true) {b : Nat} (hb : b < g.ns.length) : mayG (turnG g b) = true := by
  have hr := may_roots hm
  have hroot : ∀ x, -1 ≤ x → x < (g.ns.length : Int) → rootB g.ns.length (tat g.ns.length b x) = true := by
    intro x h1 h2
    unfold rootB
    by_cases h0 : 0 ≤ x
    · rw [(tat_in (isB_iff.2 ⟨h0, h2⟩) hb).1]; simp
    · have : x = -1 := by omega
      subst this
      rfl
  unfold mayG
  rw [turn_len]
  simp only [Bool.and_eq_true, decide_eq_true_eq, List.all_eq_true]
  refine ⟨⟨Re.may_len hm, fun x hx => ?_⟩, fun x hx v hv => ?_⟩
  · rcases List.mem_append.1 hx with hx | hx
    · obtain ⟨y, hy, rfl⟩ := List.mem_map.1 (show x ∈ g.rs.map (tat g.ns.length b) from hx)
      exact hroot y (hr.1 y hy).1 (hr.1 y hy).2
    · obtain ⟨y, hy, rfl⟩ := List.mem_map.1 (show x ∈ g.ws.map (tat g.ns.length b) from hx)
      exact hroot y (hr.2 y hy).1 (hr.2 y hy).2
  · obtain ⟨j, hj, rfl⟩ := List.mem_map.1 (show x ∈ (List.range g.ns.length).map _ from hx)
    rw [List.mem_range] at hj
    obtain ⟨u, hu, rfl⟩ := List.mem_map.1 (show v ∈ (nd g (tin g.ns.length b j)).fs.map (tval g.ns.length b) from hv)
    have hi : isB g.ns.length (tin g.ns.length b j) = true := by rw [isB_iff]; unfold tin; split <;> omega
    have hm2 := hm
    unfold mayG at hm2
    simp only [Bool.and_eq_true, List.all_eq_true] at hm2
    have hf := hm2.2 (nd g (tin g.ns.length b j)) (by unfold nd; exact mem_getD (by have := isB_iff.1 hi; omega)) u hu
    have h3 := may_nd hm hi u hu
    unfold fieldB at hf ⊢
    simp only [Bool.and_eq_true] at hf
    unfold tval plainV
    by_cases e3 : u.kd = 3
    · rw [if_pos e3, (show isB g.ns.length (⟨3, 0, 0, 0, tat g.ns.length b u.ref⟩ : V5).ref = true from (tat_in (h3 e3) hb).1)]
      rfl
    · rw [if_neg e3]
      by_cases e1 : u.kd = 1
      · rw [if_pos e1]; rfl
      · rw [if_neg e1]
        by_cases e2 : u.kd = 2
        · rw [if_pos e2]; rfl
        · rw [if_neg e2, if_neg e3]
          have e4 : (u.kd == 3) = false := by rw [beq_eq_false_iff_ne]; exact e3
          simp only [e4, hf.1.1, hf.1.2]
          rfl
theorem turn_trim {g : G3} (hm : mayG g = true) {b : Nat} (hb : b < g.ns.length) : trimL (turnG g b) = trimL g := by
  rw [trim_of hm, trim_of (may_turn hm hb)]
  refine trim_sim (sim_turn hm hb) (σ := tat g.ns.length b) rfl fun x hx => weak_sim (sim_turn hm hb) ?_
  cases h : isB g.ns.length x
  · have hn := root_neg hm (.inr hx) h
    exact .inr ⟨hn, by unfold tat; rw [if_pos hn]⟩
  · exact .inl ⟨rfl, rfl⟩
/-! One node more. -/
def junkG (g : G3) (x : N2) : G3 := ⟨g.ns ++ [x], g.rs, g.ws⟩
theorem nd_junk {g : G3} {y : N2} {x : Int} (h : isB g.ns.length x = true) : nd (junkG g y) x = nd g x := by
  have := isB_iff.1 h
  unfold nd junkG
  rw [List.getD_eq_getElem?_getD, List.getElem?_append_left (by omega), ← List.getD_eq_getElem?_getD]
theorem junk_trim {g : G3} (hm : mayG g = true) {y : N2} (hj : mayG (junkG g y) = true) : trimL (junkG g y) = trimL g := by
  have s : Sim g (junkG g y) (fun x => x) (fun x => isB g.ns.length x = true) (fun v => v) (fun x => x) := by
    refine ⟨fun x y _ _ e => e, fun x hx => hx, fun x hx => ?_, fun x hx => by rw [nd_junk hx], fun x hx => by rw [nd_junk hx, List.map_id'], fun x hx v hv => ⟨fun h => ⟨h, rfl⟩, fun h => ⟨h, rfl, rfl⟩, fun h => ⟨h, rfl, may_nd hm hx v hv h⟩, fun h1 h2 h3 => ⟨h1, h2, h3⟩⟩, ?_, fun x hx h => ⟨h, rfl⟩, fun x hx h => ⟨root_neg hm (.inl hx) h, rfl⟩⟩
    · have := isB_iff.1 hx
      rw [isB_iff]
      show 0 ≤ x ∧ x < ((g.ns ++ [y]).length : Int)
      rw [List.length_append]
      simp only [List.length_cons, List.length_nil]
      omega
    · show g.rs = g.rs.map (fun x => x)
      rw [List.map_id']
  rw [trim_of hm, trim_of hj]
  refine trim_sim s (σ := fun x => x) (by show g.ws = g.ws.map (fun x => x); rw [List.map_id']) fun x hx => weak_sim s ?_
  cases h : isB g.ns.length x
  · exact .inr ⟨root_neg hm (.inr hx) h, rfl⟩
  · exact .inl ⟨rfl, rfl⟩
/-! One field more. -/
def moreG (t : G3) (at_ : Nat) (n : Int) : G3 := ⟨t.ns.set at_ ⟨(t.ns.getD at_ zN).kd, (t.ns.getD at_ zN).fs ++ [⟨1, n, 0, 0, 0⟩]⟩, t.rs, t.ws⟩
theorem nd_more {t : G3} {a : Nat} {n x : Int} (ha : a < t.ns.length) (hx : isB t.ns.length x = true) : nd (moreG t a n) x = if x = (a : Int) then ⟨(nd t x).kd, (nd t x).fs ++ [⟨1, n, 0, 0, 0⟩]⟩ else nd t x := by
  obtain ⟨h0, h1⟩ := isB_iff.1 hx
  unfold nd moreG
  simp only
  rw [List.getD_eq_getElem?_getD, List.getElem?_set]
  by_cases e : x = (a : Int)
  · subst e
    rw [if_pos rfl, Int.toNat_natCast, if_pos rfl, if_pos ha]
    rfl
  · rw [if_neg e, if_neg (by omega), ← List.getD_eq_getElem?_getD]
theorem more_add {t : G3} {a : Nat} {n x : Int} (ha : a < t.ns.length) (hx : isB t.ns.length x = true) (N : Nat) (out : List Int) : addFs N out (nd (moreG t a n) x).fs = addFs N out (nd t x).fs := by
  rw [nd_more ha hx]
  split
  · show addFs N out ((nd t x).fs ++ [⟨1, n, 0, 0, 0⟩]) = _
    rw [addFs_snoc]
    unfold addF
    rw [if_neg (by show ¬ (1 : Int) = 3; decide)]
  · rfl
theorem more_bfs {t : G3} {a : Nat} {n : Int} (ha : a < t.ns.length) (f : Nat) : ∀ (k : Nat) (out : List Int), Gd t.ns.length out → bfs (moreG t a n) f k out = bfs t f k out := by
  have hl : (moreG t a n).ns.length = t.ns.length := by simp [moreG]
  induction f with
  | zero => exact fun k out _ => rfl
  | succ f ih =>
    intro k out hg
    unfold bfs
    by_cases hk : k < out.length
    · rw [if_pos hk, if_pos hk, hl, more_add ha (hg.2 _ (mem_getD hk))]
      exact ih _ _ (gd_addFs _ hg)
    · rw [if_neg hk, if_neg hk]
theorem more_ne {g : G3} (hm : mayG g = true) {a : Nat} {n : Int} (ha : a < (trimL g).ns.length) : alikeB (trimL g) (moreG (trimL g) a n) = false := by
  unfold alikeB
  cases hu : mayG (moreG (trimL g) a n)
  · simp
  · have hne : trimL (trimL g) ≠ trimL (moreG (trimL g) a n) := by
      rw [trim_trim hm, trim_of hu]
      have e1 := trim_of hm
      obtain ⟨W, hW⟩ : ∃ W, walkL g g.rs = W := ⟨_, rfl⟩
      rw [hW] at e1
      have hw := walk_trim hm hW.symm
      rw [← e1] at hw
      obtain ⟨t, ht⟩ : ∃ t, trimL g = t := ⟨_, rfl⟩
      rw [ht] at ha hw e1 ⊢
      have hl : (moreG t a n).ns.length = t.ns.length := by simp [moreG]
      have htl : t.ns.length = W.length := by rw [e1]; simp [trimW]
      have hwu : walkL (moreG t a n) (moreG t a n).rs = (List.range W.length).map (fun i : Nat => (i : Int)) := by
        rw [← hw]
        unfold walkL
        rw [hl]
        exact more_bfs ha _ _ _ (gd_adds _ (gd_nil _))
      rw [hwu]
      intro e
      have e2 := congrArg (fun G : G3 => (G.ns.getD a zN).fs.length) e
      have hb : isB t.ns.length (a : Int) = true := isB_iff.2 ⟨by omega, by omega⟩
      have h3 : ((trimW (moreG t a n) ((List.range W.length).map (fun i : Nat => (i : Int)))).ns.getD a zN).fs.length = (nd (moreG t a n) (a : Int)).fs.length := by
        unfold trimW
        simp only
        rw [List.getD_eq_getElem?_getD, List.getElem?_map, List.getElem?_map, List.getElem?_range (by omega)]
        simp only [Option.map_some, Option.getD_some]
        unfold nodeT
        rw [List.length_map]
      have h4 : (nd t (a : Int)).fs.length = (t.ns.getD a zN).fs.length := by unfold nd; rw [Int.toNat_natCast]
      rw [h3, nd_more ha hb, if_pos rfl] at e2
      simp only [List.length_append, List.length_cons, List.length_nil] at e2
      omega
    rw [decide_eq_false hne]
    simp
theorem alike_of {a b : G3} (ha : mayG a = true) (hb : mayG b = true) (h : trimL a = trimL b) : alikeB a b = true := by
  unfold alikeB
  rw [ha, hb, decide_eq_true h]
  rfl
end Go.Proofs.YtdgclpgjoanimaaDoor.Tp
