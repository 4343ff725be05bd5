/-
  The reference's likeness of two graphs, by contract.
-/
import Derived.Test.YtdgclpgjoanimaaDoorRt
import Derived.Test.YtdgclpgjoanimaaDoorSg
import Derived.Deep.RegionHeld3
import Derived.Deep.DeepMust
namespace Go.Proofs.YtdgclpgjoanimaaDoor.Ra
open Go.RowKit Go.ChangeShapes Go.WideShapes Go.Proofs.YtdgclpgjoanimaaDoorW.PrintWords Go.Proofs.YtdgclpgjoanimaaDoor.Ba Go.Proofs.YtdgclpgjoanimaaDoor.Ma Go.Proofs.YtdgclpgjoanimaaDoor.Mb Go.Proofs.YtdgclpgjoanimaaDoor.Pu Go.Proofs.YtdgclpgjoanimaaDoor.Wa Go.Proofs.YtdgclpgjoanimaaDoor.To Go.Proofs.YtdgclpgjoanimaaDoor.Tr Go.Proofs.YtdgclpgjoanimaaDoor.Eq Go.Proofs.YtdgclpgjoanimaaDoor.Ti
set_option linter.unusedVariables false
set_option linter.unusedSimpArgs false
set_option maxRecDepth 100000
theorem blt {w : World} {k : Nat} {o : Obj} (h : w.heap[k]? = some o) : k < w.heap.size := (Array.getElem?_eq_some_iff.1 h).1
/-- A graph in a box. -/
structure GB (W : World) (B : Nat) (s0 s1 s2 : Value) (g : G3) : Prop where
  x : W.heap[B]? = some (.cells #[s0, s1, s2] 25 (0, 0))
  g : GAt W (.agg #[s0, s1, s2]) g
theorem GB.later {W W' : World} {B : Nat} {s0 s1 s2 : Value} {g : G3} (h : GB W B s0 s1 s2 g) (hb : Below W.heap.size W W') : GB W' B s0 s1 s2 g := ⟨(hb.block _ (blt h.x)).trans h.x, h.g.below hb⟩
theorem GB.cells {W : World} {B : Nat} {s0 s1 s2 : Value} {g : G3} (h : GB W B s0 s1 s2 g) : W.cell? ⟨B, 0, none⟩ = some s0 ∧ W.cell? ⟨B, 1, none⟩ = some s1 ∧ W.cell? ⟨B, 2, none⟩ = some s2 := Bx3_one h.x
theorem heap_at1 (w : World) (a : Obj) (cs : Array Value) (ty : TypeId) : ((w.alloc a).alloc (.cells cs ty)).heap[w.heap.size + 1]? = some (.cells cs ty (0, 0)) := by
  have h := heap_alloc_new (w.alloc a) (.cells cs ty)
  rw [size_al] at h
  exact h
theorem heap_alloc_lt {w : World} {k : Nat} {o' : Obj} (o : Obj) (h : w.heap[k]? = some o') : (w.alloc o).heap[k]? = some o' := (((Below.refl w.heap.size w).alloc (Nat.le_refl _) o).block k (blt h)).trans h
theorem trim_nil {g : G3} (h : mayG g = false) : trimL g = ⟨[], [], []⟩ := by unfold trimL; rw [h]; rfl
theorem trim_szA {g : G3} (hz : Sz g) : Sz (trimL g) := by
  cases h : mayG g
  · rw [trim_nil h]
    exact ⟨Nat.zero_le _, Nat.zero_le _, fun x hx => by cases hx⟩
  · exact trim_szL h hz
theorem trim_plA {g : G3} : ∀ x ∈ (trimL g).ns, ∀ v ∈ x.fs, Pl v := by
  intro x hx v hv
  cases h : mayG g
  · rw [trim_nil h] at hx
    cases hx
  · rw [trim_of h] at hx
    obtain ⟨y, _, rfl⟩ := List.mem_map.1 (show x ∈ (walkL g g.rs).map _ from hx)
    obtain ⟨u, _, rfl⟩ := List.mem_map.1 (show v ∈ (nd g y).fs.map _ from hv)
    exact told_pl _ u
theorem trim_lenA {g : G3} : (trimL g).ns.length ≤ 4096 := by
  cases h : mayG g
  · rw [trim_nil h]; exact Nat.zero_le _
  · exact Re.may_len (trim_mayL h)
set_option maxHeartbeats 16000000 in
theorem ralike_any (va vb : Value) (a b : G3) (w : World) (ha : GAt w va a) (hb : GAt w vb b) (za : Sz a) (zb : Sz b) : Calls Tryd.prog 16 #[va, vb] w (BoolPost (alikeB a b) w) := by
  obtain ⟨AN, cN, BN, dN, CN, fN, rfl, _⟩ := Al.ga_of ha
  obtain ⟨AM, cM, BM, dM, CM, fM, rfl, _⟩ := Al.ga_of hb
  obtain ⟨w1, hw1⟩ : ∃ w1, (w.alloc (.cells #[.slice AN a.ns.length cN, .slice BN a.rs.length dN, .slice CN a.ws.length fN] 25)).alloc (.cells #[.slice AM b.ns.length cM, .slice BM b.rs.length dM, .slice CM b.ws.length fM] 25) = w1 := ⟨_, rfl⟩
  have HB1 : Hid (Below w.heap.size w w1) := Lib.hid (by rw [← hw1]; exact ((Below.refl _ _).alloc (Nat.le_refl _) _).alloc (by simp) _)
  have HG1 : Hid (GB w1 w.heap.size (.slice AN a.ns.length cN) (.slice BN a.rs.length dN) (.slice CN a.ws.length fN) a) := Lib.hid ⟨by rw [← hw1]; exact heap_alloc_lt _ (heap_alloc_new w _), ha.below HB1.out⟩
  have HH1 : Hid (GB w1 (w.heap.size + 1) (.slice AM b.ns.length cM) (.slice BM b.rs.length dM) (.slice CM b.ws.length fM) b) := Lib.hid ⟨by rw [← hw1]; exact heap_at1 w _ _ _, hb.below HB1.out⟩
  have hma : ∀ v W, GAt W v a → Calls Tryd.prog 35 #[v] W (BoolPost (mayG a) W) := fun v W h => Mc.rmay_any v a W h za
  have hmb : ∀ v W, GAt W v b → Calls Tryd.prog 35 #[v] W (BoolPost (mayG b) W) := fun v W h => Mc.rmay_any v b W h zb
  have HTA : Hid (∀ v W, GAt W v a → Calls Tryd.prog 14 #[v] W (TrimPost a W)) := Lib.hid (fun v W h => Rt.rtrim_any v a W h za)
  have HTB : Hid (∀ v W, GAt W v b → Calls Tryd.prog 14 #[v] W (TrimPost b W)) := Lib.hid (fun v W h => Rt.rtrim_any v b W h zb)
  have HSA : Hid (∀ u v W, GAt W u (trimL a) → GAt W v (trimL b) → Calls Tryd.prog 13 #[u, v] W (BoolPost (decide (trimL a = trimL b)) W)) := Lib.hid (fun u v W h1 h2 => Sg.gs_any u v _ _ W h1 h2 trim_lenA (trim_szA za) (trim_szA zb) trim_plA trim_plA)
  have hdr := (Below.refl w1.heap.size w1).drew
  have HBd := Lib.hid (HB1.out.drew)
  have HGd := Lib.hid (HG1.out.later hdr)
  have HHd := Lib.hid (HH1.out.later hdr)
  obtain ⟨g0', g1', g2'⟩ := HG1.out.cells
  obtain ⟨h0', h1', h2'⟩ := HH1.out.cells
  obtain ⟨g0, g1, g2⟩ := HGd.out.cells
  obtain ⟨h0, h1, h2⟩ := HHd.out.cells
  clear ha hb za zb hdr
  cases ea : mayG a
  · have HR : Hid (alikeB a b = false) := Lib.hid (by unfold alikeB; rw [ea]; rfl)
    rw [ea] at hma
    have HMA := Lib.hid hma
    clear ea hma hmb
    go_enter Tryd.func16, Tryd.ntmps16
    go_wp2
    go_region_law (first | (go_simp; go_at_call 35; refine (HMA.out _ _ HGd.out.g).mono ?_; rintro e w2 ⟨rfl, hb2⟩))
    all_goals
      have HB2 := Lib.hid (HBd.out.trans (hb2.mono HBd.out.size))
      clear hb2
      go_wp2
      go_ret
      rw [HR.out]
      exact ⟨rfl, HB2.out⟩
  rw [ea] at hma
  cases eb : mayG b
  · have HR : Hid (alikeB a b = false) := Lib.hid (by unfold alikeB; rw [ea, eb]; rfl)
    rw [eb] at hmb
    have HMA := Lib.hid hma
    have HMB := Lib.hid hmb
    clear ea eb hma hmb
    go_enter Tryd.func16, Tryd.ntmps16
    go_wp2
    go_region_law (first | (go_simp; go_at_call 35; (with_reducible show Calls _ _ _ w1.drew _); refine (HMA.out _ _ HGd.out.g).mono ?_; rintro e w2 ⟨rfl, hb2⟩; have HB2 := Lib.hid (HBd.out.trans (hb2.mono HBd.out.size)); have HH2 := Lib.hid (HHd.out.later hb2); obtain ⟨h0, h1, h2⟩ := HH2.out.cells) | (go_simp; go_at_call 35; refine (HMB.out _ _ HH2.out.g).mono ?_; rintro e w3 ⟨rfl, hb3⟩))
    all_goals
      have HB3 := Lib.hid (HB2.out.trans (hb3.mono HB2.out.size))
      clear hb3
      go_wp2
      go_ret
      rw [HR.out]
      exact ⟨rfl, HB3.out⟩
  have HR : Hid (alikeB a b = decide (trimL a = trimL b)) := Lib.hid (by unfold alikeB; rw [ea, eb]; rfl)
  rw [eb] at hmb
  have HMA := Lib.hid hma
  have HMB := Lib.hid hmb
  clear ea eb hma hmb
  obtain ⟨r, hr⟩ : ∃ r, decide (trimL a = trimL b) = r := ⟨_, rfl⟩
  rw [hr] at HR HSA
  clear hr
  go_enter Tryd.func16, Tryd.ntmps16
  go_wp2
  go_region_held3 (fun w' => w'.cell? ⟨w.heap.size, 0, none⟩ = some (.slice AN a.ns.length cN) ∧ w'.cell? ⟨w.heap.size, 1, none⟩ = some (.slice BN a.rs.length dN) ∧ w'.cell? ⟨w.heap.size, 2, none⟩ = some (.slice CN a.ws.length fN) ∧ w'.cell? ⟨w.heap.size + 1, 0, none⟩ = some (.slice AM b.ns.length cM) ∧ w'.cell? ⟨w.heap.size + 1, 1, none⟩ = some (.slice BM b.rs.length dM) ∧ w'.cell? ⟨w.heap.size + 1, 2, none⟩ = some (.slice CM b.ws.length fM))
    (first | ((try dsimp only); refine ⟨?_, ?_, ?_, ?_, ?_, ?_⟩ <;> (with_reducible assumption)) | fail)
    (first
      | (go_at_call 35; (with_reducible show Calls _ _ _ w1.drew _); go_must (refine (HMA.out _ _ HGd.out.g).mono ?_; rintro e v1 ⟨rfl, hb⟩; have HBv1 := Lib.hid (HBd.out.trans (hb.mono HBd.out.size)); have HGv1 := Lib.hid (HGd.out.later hb); have HHv1 := Lib.hid (HHd.out.later hb); clear hb; obtain ⟨g0, g1, g2⟩ := HGv1.out.cells; obtain ⟨h0, h1, h2⟩ := HHv1.out.cells))
      | (go_at_call 35; (with_reducible show Calls _ _ _ v1 _); go_must (refine (HMB.out _ _ HHv1.out.g).mono ?_; rintro e v2 ⟨rfl, hb⟩; have HBv2 := Lib.hid (HBv1.out.trans (hb.mono HBv1.out.size)); have HGv2 := Lib.hid (HGv1.out.later hb); have HHv2 := Lib.hid (HHv1.out.later hb); clear hb; obtain ⟨g0, g1, g2⟩ := HGv2.out.cells; obtain ⟨h0, h1, h2⟩ := HHv2.out.cells))
      | (go_at_call 14; (with_reducible show Calls _ _ _ v2 _); go_must (refine (HTA.out _ _ HGv2.out.g).mono ?_; rintro e v3 ⟨vt, rfl, hgt, hb⟩; have HVT := Lib.hid hgt; have HBv3 := Lib.hid (HBv2.out.trans (hb.mono HBv2.out.size)); have HGv3 := Lib.hid (HGv2.out.later hb); have HHv3 := Lib.hid (HHv2.out.later hb); clear hb hgt; obtain ⟨g0, g1, g2⟩ := HGv3.out.cells; obtain ⟨h0, h1, h2⟩ := HHv3.out.cells))
      | (go_at_call 14; (with_reducible show Calls _ _ _ v3 _); go_must (refine (HTB.out _ _ HHv3.out.g).mono ?_; rintro e v4 ⟨vu, rfl, hgt, hb⟩; have HVU := Lib.hid hgt; have HVT4 := Lib.hid (HVT.out.below hb); have HBv4 := Lib.hid (HBv3.out.trans (hb.mono HBv3.out.size)); have HGv4 := Lib.hid (HGv3.out.later hb); have HHv4 := Lib.hid (HHv3.out.later hb); clear hb hgt; obtain ⟨g0, g1, g2⟩ := HGv4.out.cells; obtain ⟨h0, h1, h2⟩ := HHv4.out.cells))
      | (go_at_call 13; go_must (refine (HSA.out _ _ _ HVT4.out HVU.out).mono ?_; rintro e v5 ⟨rfl, hb⟩; have HBv5 := Lib.hid (HBv4.out.trans (hb.mono HBv4.out.size)); have HGv5 := Lib.hid (HGv4.out.later hb); have HHv5 := Lib.hid (HHv4.out.later hb); clear hb; obtain ⟨g0, g1, g2⟩ := HGv5.out.cells; obtain ⟨h0, h1, h2⟩ := HHv5.out.cells))
      | fail)
  go_wp2
  go_ret
  rw [HR.out]
  exact ⟨rfl, HBv5.out⟩
end Go.Proofs.YtdgclpgjoanimaaDoor.Ra
