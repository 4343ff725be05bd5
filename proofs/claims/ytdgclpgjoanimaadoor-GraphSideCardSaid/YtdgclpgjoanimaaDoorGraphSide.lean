/-
  Two graphs side by side may be; the first one is alike to both; trimmed, what the first one's roots reach is as it was, as a text.
-/
import Derived.Test.YtdgclpgjoanimaaDoorRows
import Derived.WalkKit
import Derived.WalkSpells
import Derived.WalkLawsBesides
import Derived.WalkMore
import Derived.ProofKit
import Derived.OpenShut
import Derived.ShutString
import Derived.ChangeOld
import Derived.Below
import Derived.SizedLaws
import Derived.Lib.Hide
import Derived.ChangeMaps5
import Derived.Test.YtdgclpgjoanimaaDoorOpen
import Derived.Test.YtdgclpgjoanimaaDoorVt
import Derived.Test.YtdgclpgjoanimaaDoorTie
import Derived.Test.YtdgclpgjoanimaaDoorCards
import Derived.SevenTiedAt
import Derived.Test.YtdgclpgjoanimaaDoorTg
import Derived.Test.YtdgclpgjoanimaaDoorAl
import Derived.Test.YtdgclpgjoanimaaDoorSm
import Derived.Test.YtdgclpgjoanimaaDoorEq
import Derived.Test.YtdgclpgjoanimaaDoorSd
import Derived.Deep.RegionHeld3
import Derived.Deep.DeepMust
import Derived.Deep.CutRange
namespace Go.Proofs.YtdgclpgjoanimaaDoor.graphSide
open Go.RowKit Go.ChangeShapes Go.WideShapes Go.ChangeAt Go.Proofs.YtdgclpgjoanimaaDoorW.PrintWords
set_option linter.unusedVariables false
open Go.Proofs.YtdgclpgjoanimaaDoorW.PrintWords Go.Proofs.YtdgclpgjoanimaaDoor.Ba Go.Proofs.YtdgclpgjoanimaaDoor.Ma Go.Proofs.YtdgclpgjoanimaaDoor.Mb Go.Proofs.YtdgclpgjoanimaaDoor.Pu Go.Proofs.YtdgclpgjoanimaaDoor.To Go.Proofs.YtdgclpgjoanimaaDoor.Tr Go.Proofs.YtdgclpgjoanimaaDoor.Eq Go.Proofs.YtdgclpgjoanimaaDoor.Ld Go.Proofs.YtdgclpgjoanimaaDoor.Hx Go.Proofs.YtdgclpgjoanimaaDoor.Tb Go.Proofs.YtdgclpgjoanimaaDoor.Tg Go.Proofs.YtdgclpgjoanimaaDoor.Ti Go.Proofs.YtdgclpgjoanimaaDoor.Sd Go.Proofs.YtdgclpgjoanimaaDoor.Tp
/-- A graph in a box. -/
structure GB (W : World) (B : Nat) (s0 s1 s2 : Value) (g : G3) : Prop where
  x : W.heap[B]? = some (.cells #[s0, s1, s2] 25 (0, 0))
  g : GAt W (.agg #[s0, s1, s2]) g
theorem GB.later {W W' : World} {B : Nat} {s0 s1 s2 : Value} {g : G3} (h : GB W B s0 s1 s2 g) (hb : Below W.heap.size W W') : GB W' B s0 s1 s2 g := ⟨(hb.block _ (blt h.x)).trans h.x, h.g.below hb⟩
theorem GB.cells {W : World} {B : Nat} {s0 s1 s2 : Value} {g : G3} (h : GB W B s0 s1 s2 g) : W.cell? ⟨B, 0, none⟩ = some s0 ∧ W.cell? ⟨B, 1, none⟩ = some s1 ∧ W.cell? ⟨B, 2, none⟩ = some s2 := Bx3_one h.x
theorem heap_at1 (w : World) (a : Obj) (cs : Array Value) (ty : TypeId) : ((w.alloc a).alloc (.cells cs ty)).heap[w.heap.size + 1]? = some (.cells cs ty (0, 0)) := by
  have h := heap_alloc_new (w.alloc a) (.cells cs ty)
  rw [size_al] at h
  exact h
theorem heap_alloc_lt {w : World} {k : Nat} {o' : Obj} (o : Obj) (h : w.heap[k]? = some o') : (w.alloc o).heap[k]? = some o' := (((Below.refl w.heap.size w).alloc (Nat.le_refl _) o).block k (blt h)).trans h
theorem later_alloc {w0 w : World} (o : Obj) (h : Below w0.heap.size w0 w) : Below w0.heap.size w0 (w.alloc o) := h.alloc h.size o
set_option linter.unusedSimpArgs false
set_option maxHeartbeats 16000000
set_option maxRecDepth 100000
theorem walk (w : World) (HT0 : Ld.Tab w) (v0 : Value) (x0 : Ba.G3) (hk0 : Ba.GAt w v0 x0) (ok0 : Ba.ok3 x0) (v1 : Value) (x1 : Ba.G3) (hk1 : Ba.GAt w v1 x1) (ok1 : Ba.ok3 x1) :
    Calls Tryd.prog 4 #[v0, v1] w fun e w' => e = .returned (.bool true) ∧ Below w.heap.size w w' := by
  obtain ⟨AN, cN, BN, dN, CN, fN, rfl, _⟩ := Al.ga_of hk0
  obtain ⟨AM, cM, BM, dM, CM, fM, rfl, _⟩ := Al.ga_of hk1
  have HG := Lib.hid hk0
  have HH := Lib.hid hk1
  have HO := Lib.hid ok0
  have HP := Lib.hid ok1
  obtain ⟨w1, hw1⟩ : ∃ w1, (w.alloc (.cells #[.slice AN x0.ns.length cN, .slice BN x0.rs.length dN, .slice CN x0.ws.length fN] 25)).alloc (.cells #[.slice AM x1.ns.length cM, .slice BM x1.rs.length dM, .slice CM x1.ws.length fM] 25) = w1 := ⟨_, rfl⟩
  have HB1 : Hid (Below w.heap.size w w1) := Lib.hid (by rw [← hw1]; exact ((Below.refl _ _).alloc (Nat.le_refl _) _).alloc (by simp) _)
  have HG1 : Hid (GB w1 w.heap.size (.slice AN x0.ns.length cN) (.slice BN x0.rs.length dN) (.slice CN x0.ws.length fN) x0) := Lib.hid ⟨by rw [← hw1]; exact heap_alloc_lt _ (heap_alloc_new w _), hk0.below HB1.out⟩
  have HH1 : Hid (GB w1 (w.heap.size + 1) (.slice AM x1.ns.length cM) (.slice BM x1.rs.length dM) (.slice CM x1.ws.length fM) x1) := Lib.hid ⟨by rw [← hw1]; exact heap_at1 w _ _ _, hk1.below HB1.out⟩
  have HLG := Lib.hid (fun W (h : GAt W (.agg #[.slice AN x0.ns.length cN, .slice BN x0.rs.length dN, .slice CN x0.ws.length fN]) x0) => Re.light_any _ x0 W h ok0)
  have HLH := Lib.hid (fun W (h : GAt W (.agg #[.slice AM x1.ns.length cM, .slice BM x1.rs.length dM, .slice CM x1.ws.length fM]) x1) => Re.light_any _ x1 W h ok1)
  obtain ⟨g0, g1, g2⟩ := HG1.out.cells
  obtain ⟨h0, h1, h2⟩ := HH1.out.cells
  have HT1 := Lib.hid (HT0.below HB1.out)
  have HTW := Lib.hid HT0
  clear hk0 hk1 ok0 ok1 HT0
  cases e0 : Re.lightG x0
  · rw [e0] at HLG
    clear e0
    go_enter Tryd.func4, Tryd.ntmps4
    go_wp2_with fail
    refine (HLG.out _ HG1.out.g).mono ?_
    rintro e w2 ⟨rfl, hb2⟩
    have HB2 := Lib.hid (HB1.out.trans (hb2.mono HB1.out.size))
    have HG2 := Lib.hid (HG1.out.later hb2)
    have HH2 := Lib.hid (HH1.out.later hb2)
    clear hb2 g0 g1 g2 h0 h1 h2
    obtain ⟨g0, g1, g2⟩ := HG2.out.cells
    obtain ⟨h0, h1, h2⟩ := HH2.out.cells
    go_wp2_with fail
    refine (Aw.awake_any _).mono ?_
    rintro e wz ⟨rfl, hbz⟩
    have HBz := Lib.hid (HB2.out.trans (hbz.mono HB2.out.size))
    clear hbz
    go_wp2
    go_ret
    exact ⟨rfl, HBz.out⟩
  rw [e0] at HLG
  cases e1 : Re.lightG x1
  · rw [e1] at HLH
    clear e1
    go_enter Tryd.func4, Tryd.ntmps4
    go_wp2_with fail
    refine (HLG.out _ HG1.out.g).mono ?_
    rintro e w2 ⟨rfl, hb2⟩
    have HB2 := Lib.hid (HB1.out.trans (hb2.mono HB1.out.size))
    have HG2 := Lib.hid (HG1.out.later hb2)
    have HH2 := Lib.hid (HH1.out.later hb2)
    clear hb2 g0 g1 g2 h0 h1 h2
    obtain ⟨g0, g1, g2⟩ := HG2.out.cells
    obtain ⟨h0, h1, h2⟩ := HH2.out.cells
    go_wp2_with fail
    refine (HLH.out _ HH2.out.g).mono ?_
    rintro e w3 ⟨rfl, hb3⟩
    have HB3 := Lib.hid (HB2.out.trans (hb3.mono HB2.out.size))
    have HG3 := Lib.hid (HG2.out.later hb3)
    have HH3 := Lib.hid (HH2.out.later hb3)
    clear hb3 g0 g1 g2 h0 h1 h2
    obtain ⟨g0, g1, g2⟩ := HG3.out.cells
    obtain ⟨h0, h1, h2⟩ := HH3.out.cells
    go_wp2_with fail
    refine (Aw.awake_any _).mono ?_
    rintro e wz ⟨rfl, hbz⟩
    have HBz := Lib.hid (HB3.out.trans (hbz.mono HB3.out.size))
    clear hbz
    go_wp2
    go_ret
    exact ⟨rfl, HBz.out⟩
  rw [e1] at HLH
  have HMG := Lib.hid (fun W (h : GAt W (.agg #[.slice AN x0.ns.length cN, .slice BN x0.rs.length dN, .slice CN x0.ws.length fN]) x0) => may_any _ x0 W h (Re.light_sz e0))
  have HMH := Lib.hid (fun W (h : GAt W (.agg #[.slice AM x1.ns.length cM, .slice BM x1.rs.length dM, .slice CM x1.ws.length fM]) x1) => may_any _ x1 W h (Re.light_sz e1))
  cases e2 : mayG x0
  · rw [e2] at HMG
    clear e2
    go_enter Tryd.func4, Tryd.ntmps4
    go_wp2_with fail
    refine (HLG.out _ HG1.out.g).mono ?_
    rintro e w2 ⟨rfl, hb2⟩
    have HB2 := Lib.hid (HB1.out.trans (hb2.mono HB1.out.size))
    have HG2 := Lib.hid (HG1.out.later hb2)
    have HH2 := Lib.hid (HH1.out.later hb2)
    clear hb2 g0 g1 g2 h0 h1 h2
    obtain ⟨g0, g1, g2⟩ := HG2.out.cells
    obtain ⟨h0, h1, h2⟩ := HH2.out.cells
    go_wp2_with fail
    refine (HLH.out _ HH2.out.g).mono ?_
    rintro e w3 ⟨rfl, hb3⟩
    have HB3 := Lib.hid (HB2.out.trans (hb3.mono HB2.out.size))
    have HG3 := Lib.hid (HG2.out.later hb3)
    have HH3 := Lib.hid (HH2.out.later hb3)
    clear hb3 g0 g1 g2 h0 h1 h2
    obtain ⟨g0, g1, g2⟩ := HG3.out.cells
    obtain ⟨h0, h1, h2⟩ := HH3.out.cells
    go_wp2_with fail
    refine (HMG.out _ HG3.out.g).mono ?_
    rintro e w4 ⟨rfl, hb4⟩
    have HB4 := Lib.hid (HB3.out.trans (hb4.mono HB3.out.size))
    have HG4 := Lib.hid (HG3.out.later hb4)
    have HH4 := Lib.hid (HH3.out.later hb4)
    clear hb4 g0 g1 g2 h0 h1 h2
    obtain ⟨g0, g1, g2⟩ := HG4.out.cells
    obtain ⟨h0, h1, h2⟩ := HH4.out.cells
    go_wp2_with fail
    refine (Aw.awake_any _).mono ?_
    rintro e wz ⟨rfl, hbz⟩
    have HBz := Lib.hid (HB4.out.trans (hbz.mono HB4.out.size))
    clear hbz
    go_wp2
    go_ret
    exact ⟨rfl, HBz.out⟩
  rw [e2] at HMG
  cases e3 : mayG x1
  · rw [e3] at HMH
    clear e3
    go_enter Tryd.func4, Tryd.ntmps4
    go_wp2_with fail
    refine (HLG.out _ HG1.out.g).mono ?_
    rintro e w2 ⟨rfl, hb2⟩
    have HB2 := Lib.hid (HB1.out.trans (hb2.mono HB1.out.size))
    have HG2 := Lib.hid (HG1.out.later hb2)
    have HH2 := Lib.hid (HH1.out.later hb2)
    clear hb2 g0 g1 g2 h0 h1 h2
    obtain ⟨g0, g1, g2⟩ := HG2.out.cells
    obtain ⟨h0, h1, h2⟩ := HH2.out.cells
    go_wp2_with fail
    refine (HLH.out _ HH2.out.g).mono ?_
    rintro e w3 ⟨rfl, hb3⟩
    have HB3 := Lib.hid (HB2.out.trans (hb3.mono HB2.out.size))
    have HG3 := Lib.hid (HG2.out.later hb3)
    have HH3 := Lib.hid (HH2.out.later hb3)
    clear hb3 g0 g1 g2 h0 h1 h2
    obtain ⟨g0, g1, g2⟩ := HG3.out.cells
    obtain ⟨h0, h1, h2⟩ := HH3.out.cells
    go_wp2_with fail
    refine (HMG.out _ HG3.out.g).mono ?_
    rintro e w4 ⟨rfl, hb4⟩
    have HB4 := Lib.hid (HB3.out.trans (hb4.mono HB3.out.size))
    have HG4 := Lib.hid (HG3.out.later hb4)
    have HH4 := Lib.hid (HH3.out.later hb4)
    clear hb4 g0 g1 g2 h0 h1 h2
    obtain ⟨g0, g1, g2⟩ := HG4.out.cells
    obtain ⟨h0, h1, h2⟩ := HH4.out.cells
    go_wp2_with fail
    refine (HMH.out _ HH4.out.g).mono ?_
    rintro e w5 ⟨rfl, hb5⟩
    have HB5 := Lib.hid (HB4.out.trans (hb5.mono HB4.out.size))
    have HG5 := Lib.hid (HG4.out.later hb5)
    have HH5 := Lib.hid (HH4.out.later hb5)
    clear hb5 g0 g1 g2 h0 h1 h2
    obtain ⟨g0, g1, g2⟩ := HG5.out.cells
    obtain ⟨h0, h1, h2⟩ := HH5.out.cells
    go_wp2_with fail
    refine (Aw.awake_any _).mono ?_
    rintro e wz ⟨rfl, hbz⟩
    have HBz := Lib.hid (HB5.out.trans (hbz.mono HB5.out.size))
    clear hbz
    go_wp2
    go_ret
    exact ⟨rfl, HBz.out⟩
  rw [e3] at HMH
  have HE2 := Lib.hid e2
  have HE3 := Lib.hid e3
  have HZ0 := Lib.hid (Re.light_sz e0)
  have HZ1 := Lib.hid (Re.light_sz e1)
  obtain ⟨l00, l01, l02, l03⟩ := Re.light_ns e0
  obtain ⟨l10, l11, l12, l13⟩ := Re.light_ns e1
  have HL0 : Hid (x0.ns.length ≤ 60) := Lib.hid l00
  have HL1 : Hid (x1.ns.length ≤ 60) := Lib.hid l10
  have HF1 := Lib.hid l13
  have HMF := Lib.hid (may_fields e3)
  clear l00 l01 l02 l03 l10 l11 l12 l13 e0 e1 e2 e3
  go_enter Tryd.func4, Tryd.ntmps4
  go_wp2_with fail
  refine (HLG.out _ HG1.out.g).mono ?_
  rintro e w2 ⟨rfl, hb2⟩
  have HB2 := Lib.hid (HB1.out.trans (hb2.mono HB1.out.size))
  have HG2 := Lib.hid (HG1.out.later hb2)
  have HH2 := Lib.hid (HH1.out.later hb2)
  clear hb2 g0 g1 g2 h0 h1 h2
  obtain ⟨g0, g1, g2⟩ := HG2.out.cells
  obtain ⟨h0, h1, h2⟩ := HH2.out.cells
  go_wp2_with fail
  refine (HLH.out _ HH2.out.g).mono ?_
  rintro e w3 ⟨rfl, hb3⟩
  have HB3 := Lib.hid (HB2.out.trans (hb3.mono HB2.out.size))
  have HG3 := Lib.hid (HG2.out.later hb3)
  have HH3 := Lib.hid (HH2.out.later hb3)
  clear hb3 g0 g1 g2 h0 h1 h2
  obtain ⟨g0, g1, g2⟩ := HG3.out.cells
  obtain ⟨h0, h1, h2⟩ := HH3.out.cells
  go_wp2_with fail
  refine (HMG.out _ HG3.out.g).mono ?_
  rintro e w4 ⟨rfl, hb4⟩
  have HB4 := Lib.hid (HB3.out.trans (hb4.mono HB3.out.size))
  have HG4 := Lib.hid (HG3.out.later hb4)
  have HH4 := Lib.hid (HH3.out.later hb4)
  clear hb4 g0 g1 g2 h0 h1 h2
  obtain ⟨g0, g1, g2⟩ := HG4.out.cells
  obtain ⟨h0, h1, h2⟩ := HH4.out.cells
  go_wp2_with fail
  refine (HMH.out _ HH4.out.g).mono ?_
  rintro e w5 ⟨rfl, hb5⟩
  have HB5 := Lib.hid (HB4.out.trans (hb5.mono HB4.out.size))
  have HG5 := Lib.hid (HG4.out.later hb5)
  have HH5 := Lib.hid (HH4.out.later hb5)
  clear hb5 g0 g1 g2 h0 h1 h2
  obtain ⟨g0, g1, g2⟩ := HG5.out.cells
  obtain ⟨h0, h1, h2⟩ := HH5.out.cells
  obtain ⟨rl0, hrC, hrO⟩ := raw_of (Al.ga_at HG5.out.g).n (by have := HL0.out; omega)
  have hrl0 : x0.ns.length = rl0.length := hrO.1.symm
  obtain ⟨w6, hw6⟩ : ∃ w6, w5.alloc (.cells #[.slice none 0 0, .slice BN x0.rs.length dN, .slice CN x0.ws.length fN] 25) = w6 := ⟨_, rfl⟩
  have HB6 : Hid (Below w5.heap.size w5 w6) := Lib.hid (by rw [← hw6]; exact bel_one _ _)
  have HX6 : Hid (w6.heap[w5.heap.size]? = some (.cells #[.slice none 0 0, .slice BN x0.rs.length dN, .slice CN x0.ws.length fN] 25 (0, 0))) := Lib.hid (by rw [← hw6]; exact heap_alloc_new _ _)
  have HG6 := Lib.hid (HG5.out.later HB6.out)
  have HH6 := Lib.hid (HH5.out.later HB6.out)
  have HRC6 : Hid (Kd.C kR w6 AN rl0.length rl0) := Lib.hid (by rw [← hrl0]; exact Kd.C_below hrC HB6.out)
  have HRO := Lib.hid hrO
  have HRL0 := Lib.hid hrl0
  have HRL5 : Hid (rl0.length ≤ 60) := Lib.hid (by have := HL0.out; omega)
  clear hrC hrO hrl0 g0 g1 g2 h0 h1 h2
  obtain ⟨g0, g1, g2⟩ := HG6.out.cells
  obtain ⟨h0, h1, h2⟩ := HH6.out.cells
  obtain ⟨a0, a1, a2⟩ := Bx3_one HX6.out
  obtain ⟨g0', _, _⟩ := HG5.out.cells
  obtain ⟨_, g1', g2'⟩ := HG5.out.cells
  go_wp2_with (at_builtin; refine Kd.R_append_rows (P := Tryd.prog) kR (w0 := w5) (W := w6) (Rr := kR.K w6) w5.heap.size rfl (.tmp 40) (.tmp 42) 22 33 zNd 32 rfl Tryd.underlying22 infoR rfl (by decide) (by decide) (.slice none 0 0) [] rl0 AN x0.ns.length cN (fun _ => True) (fun _ => False) rfl rfl (Kd.R_nil _ _ _ _ _) (by rw [HRL0.out]; exact HRC6.out) (fun _ _ h => kR_KM h) (fun _ h => h.elim) (fun _ _ => trivial) HB6.out HB6.out.size ?c1 ?_)
  case c1 => have := HL0.out; simp only [List.length_nil]; omega
  intro v7 w7 hr7 hb7 hg7 hat7
  obtain ⟨A7, c7, rfl, _, _⟩ := Kd.R_reads hr7
  try rw [List.nil_append] at hr7
  have hx7 := (hg7.block w5.heap.size (blt HX6.out) (by simp [Value.ownBlock])).trans HX6.out
  have hf7 := blk_frozen hx7 0
  have HX7 := Lib.hid hx7
  obtain ⟨w8, hw8⟩ : ∃ w8, w7.setCell ⟨w5.heap.size, 0, none⟩ (.slice A7 rl0.length c7) = w8 := ⟨_, rfl⟩
  have HX8 : Hid (w8.heap[w5.heap.size]? = some (.cells #[.slice A7 rl0.length c7, .slice BN x0.rs.length dN, .slice CN x0.ws.length fN] 25 (0, 0))) := Lib.hid (by rw [← hw8]; exact blk_set hx7 0 _)
  have HR8 : Hid (kR.R 33 w8 w5.heap.size (fun _ => True) (.slice A7 rl0.length c7) rl0) := Lib.hid (by rw [← hw8]; exact Kd.R_set hr7 hx7 kR_E 0 _)
  have HB8 : Hid (Below w5.heap.size w5 w8) := Lib.hid (by rw [← hw8]; exact hb7.trans (Tm.below_of_grown (grown_set w7 w5.heap.size 0 _) (Nat.le_refl _) hb7.size))
  have HST : Hid (∀ W, Below w5.heap.size w5 W → KeepT w8 W → RawsOk W rl0 (x0.ns ++ (x1.ns.take 0).map (sideN x0.ns.length))) := Lib.hid (fun W hW _ => by rw [List.take_zero, List.map_nil, List.append_nil]; exact HRO.out.old hW.block)
  have HH8 := Lib.hid (HH5.out.later HB8.out)
  obtain ⟨a0, a1, a2⟩ := Bx3_one HX7.out
  clear hr7 hb7 hg7 hat7 hx7 g0 g1 g2 h0 h1 h2 hw6
  obtain ⟨h0, h1, h2⟩ := HH8.out.cells
  go_wp2
  go_loopw [48] (fun i wr => ∃ (k : Nat) (A : Option Addr) (c : Nat) (rl : List Raw), k ≤ x1.ns.length ∧ i = .int .i64 (k : Int) ∧ wr.heap[w5.heap.size]? = some (.cells #[.slice A rl.length c, .slice BN x0.rs.length dN, .slice CN x0.ws.length fN] 25 (0, 0)) ∧ kR.R 33 wr w5.heap.size (fun _ => True) (.slice A rl.length c) rl ∧ (∀ W, Below w5.heap.size w5 W → KeepT wr W → RawsOk W rl (x0.ns ++ (x1.ns.take k).map (sideN x0.ns.length))) ∧ Below w5.heap.size w5 wr) (fun i _ => x1.ns.length - (intOf i).toNat)
  case atStart => exact ⟨0, _, _, rl0, Nat.zero_le _, rfl, HX8.out, HR8.out, HST.out, HB8.out⟩
  case round =>
    obtain ⟨k, A, c, rl, hk, rfl, hx, hr, hst, hb⟩ := hrel
    have HXK := Lib.hid hx
    have HRK := Lib.hid hr
    have HSK := Lib.hid hst
    have HBK := Lib.hid hb
    have hrl : rl.length = x0.ns.length + k := by
      have := (hst wr hb (fun _ _ _ _ _ h => h)).1
      rw [this, List.length_append, List.length_map, List.length_take]
      omega
    have HRLL : Hid (rl.length ≤ 200) := Lib.hid (by have := HL0.out; have := HL1.out; omega)
    clear hst hr hrl
    by_cases hlt : k < x1.ns.length
    · obtain ⟨ad, eAM, y0, A7, c7, y1, _, hfv⟩ := (Al.ga_at HH5.out.g).n k hlt
      subst eAM
      have HLT := Lib.hid hlt
      have y0 := cell_old y0 hb.block
      have y1 := cell_old y1 hb.block
      have hmem := mem_getD (d := zN) hlt
      have hzl := HF1.out _ hmem
      have HFF := Lib.hid (HMF.out _ hmem)
      have HTK : Hid ((x1.ns.take (k + 1)).map (sideN x0.ns.length) = (x1.ns.take k).map (sideN x0.ns.length) ++ [sideN x0.ns.length (x1.ns.getD k zN)]) := Lib.hid (by rw [take_snoc _ zN k hlt, List.map_append]; rfl)
      obtain ⟨xn, hxn⟩ : ∃ x, x1.ns.getD k zN = x := ⟨_, rfl⟩
      rw [hxn] at y0 y1 hfv hzl HFF HTK
      obtain ⟨z0, f0⟩ := xn
      dsimp only at y0 y1 hfv hzl HFF
      have HFV : Hid (∀ W, Below w5.heap.size w5 W → Fv W A7 f0) := Lib.hid (fun W hW => hfv.old hW.block)
      obtain ⟨wo, rfl⟩ : ∃ wo : World, wo = wr := ⟨_, rfl⟩
      obtain ⟨ws, hws⟩ : ∃ ws, (wo.alloc (.cells #[.int .i64 z0, .slice A7 f0.length c7] 33)).alloc (.cells #[.int .i64 z0, .slice none 0 0] 33) = ws := ⟨_, rfl⟩
      have HBS : Hid (Below wo.heap.size wo ws) := Lib.hid (by rw [← hws]; exact ((Below.refl _ _).alloc (Nat.le_refl _) _).alloc (by simp) _)
      have HXY : Hid (ws.heap[wo.heap.size + 1]? = some (.cells #[.int .i64 z0, .slice none 0 0] 33 (0, 0))) := Lib.hid (by rw [← hws, ← size_al wo (.cells #[.int .i64 z0, .slice A7 f0.length c7] 33)]; exact heap_alloc_new _ _)
      have HWS := Lib.hid hws
      clear hmem hxn hfv hws hx hb
      go_wp2
      rw [HWS.out]
      go_loopw [58] (fun i wr => ∃ (u : Nat) (v7 : Value), u ≤ f0.length ∧ i = .int .i64 (u : Int) ∧ wr.heap[wo.heap.size + 1]? = some (.cells #[.int .i64 z0, v7] 33 (0, 0)) ∧ R5 wr wo.heap.size v7 ((f0.take u).map (sval x0.ns.length)) ∧ Below wo.heap.size wo wr) (fun i _ => f0.length - (intOf i).toNat)
      case atStart => exact ⟨0, _, Nat.zero_le _, rfl, HXY.out, R5.nil _ _, HBS.out⟩
      case round =>
        obtain ⟨u, v7, hu, rfl, hX, hR5, hb2⟩ := hrel
        obtain ⟨L7, hL7⟩ : ∃ L, (f0.take u).map (sval x0.ns.length) = L := ⟨_, rfl⟩
        have hL7l : L7.length ≤ 1000 := by rw [← hL7]; simp; omega
        rw [hL7] at hR5
        obtain ⟨A9, c9, rfl, hc9, _⟩ := hR5.reads
        obtain ⟨x1', x2'⟩ := two_cells hX
        have fz1 := blk_frozen hX 1
        have HX := Lib.hid hX
        have HR5 := Lib.hid hR5
        have HB5' := Lib.hid hb2
        have HL7 := Lib.hid hL7
        have HC9 := Lib.hid hc9
        have hbs7 := hb2.size
        have HBW : Hid (Below w5.heap.size w5 wr) := Lib.hid (HBK.out.trans (hb2.mono HBK.out.size))
        clear hX hR5 hL7 hc9 y0 y1
        by_cases hlt2 : u < f0.length
        · obtain ⟨ad3, rfl, hc⟩ := (HFV.out _ HBW.out) u hlt2
          have HEE : Hid ((f0.take (u + 1)).map (sval x0.ns.length) = L7 ++ [sval x0.ns.length (f0.getD u z5)]) := Lib.hid (by rw [take_snoc f0 z5 u hlt2, List.map_append, HL7.out]; rfl)
          have HK3 := Lib.hid (HFF.out _ (mem_getD (d := z5) hlt2))
          obtain ⟨x, hx⟩ : ∃ x, f0.getD u z5 = x := ⟨_, rfl⟩
          rw [hx] at hc HEE HK3
          clear hx
          obtain ⟨p0, p1, p2, p3, p4⟩ := hc
          obtain ⟨e0, e1, e2, e3, e4⟩ := x
          dsimp only at p0 p1 p2 p3 p4 HK3
          have hby := (Below.refl wr.heap.size wr).alloc (Nat.le_refl _) (.cells #[.int .i64 e0, .int .i64 e1, .int .u64 e2, .int .u64 e3, .int .i64 e4] 36)
          have HYB : Hid (Bx5 (wr.alloc (.cells #[.int .i64 e0, .int .i64 e1, .int .u64 e2, .int .u64 e3, .int .i64 e4] 36)) wr.heap.size ⟨e0, e1, e2, e3, e4⟩) := Lib.hid (heap_alloc_new wr _)
          have HPL := Lib.hid (plain_any ⟨e0, e1, e2, e3, e4⟩ (wr.alloc (.cells #[.int .i64 e0, .int .i64 e1, .int .u64 e2, .int .u64 e3, .int .i64 e4] 36)))
          unfold PlainPost agg5 at HPL
          have HBY := Lib.hid hby
          clear hby hb2
          by_cases h3 : e0 = 3
          · subst h3
            have hpl : plainV ⟨3, e1, e2, e3, e4⟩ = ⟨3, 0, 0, 0, e4⟩ := rfl
            rw [hpl] at HPL
            dsimp only at HPL
            obtain ⟨hr0, hr1⟩ := HK3.out rfl
            have hn60 := HL0.out
            have hn61 := HL1.out
            have hwr : IntKind.i64.wrap (e4 + (x0.ns.length : Int)) = e4 + (x0.ns.length : Int) := by rw [Go.IntWalk.i64_in _ (by omega)]
            have hwr2 : wrap64 (e4 + (x0.ns.length : Int)) = e4 + (x0.ns.length : Int) := by unfold wrap64; omega
            have HE : Hid ((f0.take (u + 1)).map (sval x0.ns.length) = L7 ++ [⟨3, 0, 0, 0, e4 + (x0.ns.length : Int)⟩]) := Lib.hid (by rw [HEE.out]; rfl)
            clear hpl HEE hr0 hr1 hn60 hn61
            go_wp2_with fail
            refine HPL.out.mono ?_
            rintro e w6' ⟨rfl, hb6⟩
            have hY6 := HYB.out.below hb6 (blt HYB.out)
            obtain ⟨i0, i1, i2, i3, i4⟩ := Bx5.cells hY6
            have q0 := blk_frozen hY6 0
            have q1 := blk_frozen hY6 1
            have q2 := blk_frozen hY6 2
            have q3 := blk_frozen hY6 3
            have q4 := blk_frozen hY6 4
            obtain ⟨w7', hw7, hY7, hg7⟩ := box5_set hY6 ⟨3, 0, 0, 0, e4⟩
            dsimp only at hw7
            have HW7 : Hid (Below wr.heap.size wr w7') := Lib.hid ((HBY.out.trans (hb6.mono (by rw [size_al]; omega))).trans (Tm.below_of_grown hg7 (Nat.le_refl _) (by have := hb6.size; rw [size_al] at this; omega)))
            obtain ⟨j0, j1, j2, j3, j4⟩ := Bx5.cells hY7
            have fj := blk_frozen hY7 4
            obtain ⟨w8', hw8'⟩ : ∃ w8', w7'.setCell ⟨wr.heap.size, 4, none⟩ (.int .i64 (e4 + (x0.ns.length : Int))) = w8' := ⟨_, rfl⟩
            have HY8 : Hid (Bx5 w8' wr.heap.size ⟨3, 0, 0, 0, e4 + (x0.ns.length : Int)⟩) := Lib.hid (by rw [← hw8']; exact blk_set hY7 4 _)
            have HW8 : Hid (Below wr.heap.size wr w8') := Lib.hid (by rw [← hw8']; exact HW7.out.trans (Tm.below_of_grown (grown_set _ _ _ _) (Nat.le_refl _) HW7.out.size))
            obtain ⟨m0, m1, m2, m3, m4⟩ := Bx5.cells HY8.out
            clear hb6 hY6 hY7 hg7
            have HXX8 := Lib.hid ((HW8.out.block _ (blt HX.out)).trans HX.out)
            have HR8' := Lib.hid (HR5.out.below HW8.out)
            have HBB8 := Lib.hid (HB5'.out.trans (HW8.out.mono hbs7))
            obtain ⟨_, s6⟩ := two_cells HXX8.out
            have hs8 : wo.heap.size ≤ w8'.heap.size := HBB8.out.size
            go_wp2_with (at_builtin; refine Kd.R_append (P := Tryd.prog) k5 (w0 := wo) (W := w8') wo.heap.size rfl (.tmp 73) (.tmp 75) 31 36 zV 40 rfl Tryd.underlying31 info5 rfl (by decide) (by decide) _ L7 ⟨3, 0, 0, 0, e4 + (x0.ns.length : Int)⟩ [.int .i64 3, .int .i64 0, .int .u64 0, .int .u64 0, .int .i64 (e4 + (x0.ns.length : Int))] (fun _ => True) (fun _ => False) rfl rfl (k5_M _ _ _ _) (fun _ h => h.elim) (fun _ _ => trivial) HR8'.out HBB8.out hs8 ?c1 ?_)
            case c1 => omega
            intro v9 w9 hr9 hb9 hg9 hat9
            obtain ⟨A6, c6, rfl, _, _⟩ := Kd.R_reads hr9
            simp only [List.length_append, List.length_cons, List.length_nil, Nat.zero_add] at hr9
            have hX9 := (hg9.block (wo.heap.size + 1) (blt HXX8.out) (fun e => R5.ne HR8'.out HXX8.out (by decide) e.symm)).trans HXX8.out
            obtain ⟨_, o9⟩ := two_cells hX9
            have f9 := blk_frozen hX9 1
            have HR9 : Hid (R5 (w9.setCell ⟨wo.heap.size + 1, 1, none⟩ (.slice A6 (L7.length + 1) c6)) wo.heap.size (.slice A6 (L7.length + 1) c6) ((f0.take (u + 1)).map (sval x0.ns.length))) := Lib.hid (by rw [HE.out]; exact Kd.R_set hr9 hX9 (by decide) 1 _)
            have HXF : Hid ((w9.setCell ⟨wo.heap.size + 1, 1, none⟩ (.slice A6 (L7.length + 1) c6)).heap[wo.heap.size + 1]? = some (.cells #[.int .i64 z0, .slice A6 (L7.length + 1) c6] 33 (0, 0))) := Lib.hid (blk_set hX9 1 _)
            have HBF := Lib.hid (hb9.trans (Tm.below_of_grown (grown_set w9 (wo.heap.size + 1) 1 (.slice A6 (L7.length + 1) c6)) (by omega) hb9.size))
            clear hr9 hb9 hg9 hat9 hX9
            go_wp2
            go_roundw
            case rel => exact ⟨u + 1, _, by omega, by go_num, HXF.out, HR9.out, HBF.out⟩
            case measure => simp [intOf]; omega
          · obtain ⟨⟨t0, t1, t2, t3, t4⟩, hy⟩ : ∃ y, plainV ⟨e0, e1, e2, e3, e4⟩ = y := ⟨_, rfl⟩
            have ht0 : t0 ≠ 3 := by
              have := congrArg V5.kd hy
              unfold plainV at this
              dsimp only at this
              intro e
              subst e
              split at this
              · cases this
              · split at this
                · cases this
                · first
                  | (split at this <;> simp_all)
                  | simp_all
            rw [hy] at HPL
            dsimp only at HPL
            have HE : Hid ((f0.take (u + 1)).map (sval x0.ns.length) = L7 ++ [⟨t0, t1, t2, t3, t4⟩]) := Lib.hid (by rw [HEE.out, ← hy]; unfold sval; rw [if_neg h3])
            have b3 : (t0 == 3) = false := by rw [beq_eq_false_iff_ne]; exact ht0
            clear HEE hy h3 ht0
            go_wp2_with fail
            refine HPL.out.mono ?_
            rintro e w6' ⟨rfl, hb6⟩
            have hY6 := HYB.out.below hb6 (blt HYB.out)
            obtain ⟨i0, i1, i2, i3, i4⟩ := Bx5.cells hY6
            have q0 := blk_frozen hY6 0
            have q1 := blk_frozen hY6 1
            have q2 := blk_frozen hY6 2
            have q3 := blk_frozen hY6 3
            have q4 := blk_frozen hY6 4
            obtain ⟨w7', hw7, hY7, hg7⟩ := box5_set hY6 ⟨t0, t1, t2, t3, t4⟩
            dsimp only at hw7
            have HW8 : Hid (Below wr.heap.size wr w7') := Lib.hid ((HBY.out.trans (hb6.mono (by rw [size_al]; omega))).trans (Tm.below_of_grown hg7 (Nat.le_refl _) (by have := hb6.size; rw [size_al] at this; omega)))
            obtain ⟨j0, j1, j2, j3, j4⟩ := Bx5.cells hY7
            clear hb6 hY6 hY7 hg7
            have HXX8 := Lib.hid ((HW8.out.block _ (blt HX.out)).trans HX.out)
            have HR8' := Lib.hid (HR5.out.below HW8.out)
            have HBB8 := Lib.hid (HB5'.out.trans (HW8.out.mono hbs7))
            obtain ⟨_, s6⟩ := two_cells HXX8.out
            have hs8 : wo.heap.size ≤ w7'.heap.size := HBB8.out.size
            go_wp2_with (at_builtin; refine Kd.R_append (P := Tryd.prog) k5 (w0 := wo) (W := w7') wo.heap.size rfl (.tmp 73) (.tmp 75) 31 36 zV 40 rfl Tryd.underlying31 info5 rfl (by decide) (by decide) _ L7 ⟨t0, t1, t2, t3, t4⟩ [.int .i64 t0, .int .i64 t1, .int .u64 t2, .int .u64 t3, .int .i64 t4] (fun _ => True) (fun _ => False) rfl rfl (k5_M _ _ _ _) (fun _ h => h.elim) (fun _ _ => trivial) HR8'.out HBB8.out hs8 ?c1 ?_)
            case c1 => omega
            intro v9 w9 hr9 hb9 hg9 hat9
            obtain ⟨A6, c6, rfl, _, _⟩ := Kd.R_reads hr9
            simp only [List.length_append, List.length_cons, List.length_nil, Nat.zero_add] at hr9
            have hX9 := (hg9.block (wo.heap.size + 1) (blt HXX8.out) (fun e => R5.ne HR8'.out HXX8.out (by decide) e.symm)).trans HXX8.out
            obtain ⟨_, o9⟩ := two_cells hX9
            have f9 := blk_frozen hX9 1
            have HR9 : Hid (R5 (w9.setCell ⟨wo.heap.size + 1, 1, none⟩ (.slice A6 (L7.length + 1) c6)) wo.heap.size (.slice A6 (L7.length + 1) c6) ((f0.take (u + 1)).map (sval x0.ns.length))) := Lib.hid (by rw [HE.out]; exact Kd.R_set hr9 hX9 (by decide) 1 _)
            have HXF : Hid ((w9.setCell ⟨wo.heap.size + 1, 1, none⟩ (.slice A6 (L7.length + 1) c6)).heap[wo.heap.size + 1]? = some (.cells #[.int .i64 z0, .slice A6 (L7.length + 1) c6] 33 (0, 0))) := Lib.hid (blk_set hX9 1 _)
            have HBF := Lib.hid (hb9.trans (Tm.below_of_grown (grown_set w9 (wo.heap.size + 1) 1 (.slice A6 (L7.length + 1) c6)) (by omega) hb9.size))
            clear hr9 hb9 hg9 hat9 hX9
            go_wp2
            go_roundw
            case rel => exact ⟨u + 1, _, by omega, by go_num, HXF.out, HR9.out, HBF.out⟩
            case measure => simp [intOf]; omega
        · obtain rfl : u = f0.length := by omega
          have hl7 := HL7.out
          rw [List.take_length] at hl7
          have hxa := (HB5'.out.block _ (blt HXK.out)).trans HXK.out
          have HXA := Lib.hid hxa
          obtain ⟨a0, a1, a2⟩ := Bx3_one hxa
          have HRW := Lib.hid (Kd.R_below HRK.out HB5'.out)
          have HLL := Lib.hid hl7
          clear hxa hl7 hb2
          go_wp2_with (at_builtin; refine Kd.R_append (P := Tryd.prog) kR (w0 := w5) (W := wr) w5.heap.size rfl (.tmp 80) (.tmp 82) 22 33 zNd 32 rfl Tryd.underlying22 infoR rfl (by decide) (by decide) _ rl (z0, (A9, L7.length, c9)) [.int .i64 z0, .slice A9 L7.length c9] (fun _ => True) (fun _ => False) rfl rfl (kR_M _ _ _ _) (fun _ h => h.elim) (fun _ _ => trivial) HRW.out HBW.out HBW.out.size ?c1 ?_)
          case c1 => have := HRLL.out; omega
          intro v9 w9 hr9 hb9 hg9 hat9
          obtain ⟨A6, c6, rfl, _, _⟩ := Kd.R_reads hr9
          have hx9 := (hg9.block w5.heap.size (blt HXA.out) (Kd.R_ne HRW.out HXA.out (by decide))).trans HXA.out
          have hf9 := blk_frozen hx9 0
          have HXF : Hid ((w9.setCell ⟨w5.heap.size, 0, none⟩ (.slice A6 (rl.length + 1) c6)).heap[w5.heap.size]? = some (.cells #[.slice A6 (rl ++ [((z0, (A9, L7.length, c9)) : Raw)]).length c6, .slice BN x0.rs.length dN, .slice CN x0.ws.length fN] 25 (0, 0))) := Lib.hid (by rw [List.length_append]; exact blk_set hx9 0 _)
          have HRF : Hid (kR.R 33 (w9.setCell ⟨w5.heap.size, 0, none⟩ (.slice A6 (rl.length + 1) c6)) w5.heap.size (fun _ => True) (.slice A6 (rl ++ [((z0, (A9, L7.length, c9)) : Raw)]).length c6) (rl ++ [((z0, (A9, L7.length, c9)) : Raw)])) := Lib.hid (Kd.R_set hr9 hx9 kR_E 0 _)
          have HBF := Lib.hid (hb9.trans (Tm.below_of_grown (grown_set w9 w5.heap.size 0 (.slice A6 (rl.length + 1) c6)) (Nat.le_refl _) hb9.size))
          have HSF : Hid (∀ W, Below w5.heap.size w5 W → KeepT (w9.setCell ⟨w5.heap.size, 0, none⟩ (.slice A6 (rl.length + 1) c6)) W → RawsOk W (rl ++ [((z0, (A9, L7.length, c9)) : Raw)]) (x0.ns ++ (x1.ns.take (k + 1)).map (sideN x0.ns.length))) := Lib.hid (fun W hW hK => by
            have k2 : KeepT wr W := (keep_row HRW.out hg9).trans ((keep_box hx9 0 _).trans hK)
            have k1 : KeepT wo W := (keep_below HB5'.out).trans k2
            have h1 := HSK.out W hW k1
            rw [HTK.out, ← List.append_assoc]
            refine h1.snoc ⟨rfl, ?_, ?_, ?_⟩
            · show L7.length = (f0.map _).length
              rw [HLL.out]
            · show (f0.map _).length ≤ c9
              rw [HLL.out]
              exact HC9.out
            · show Fv W A9 (f0.map _)
              rw [HLL.out]
              exact fv_keep HR5.out W k2)
          obtain ⟨b0, b1, b2⟩ := Bx3_one hx9
          clear hr9 hb9 hg9 hat9 hx9 a0 a1 a2
          have hk60 := HL1.out
          have hk61 := HLT.out
          go_wp2
          go_roundw
          case rel => exact ⟨k + 1, A6, c6, rl ++ [((z0, (A9, L7.length, c9)) : Raw)], by have := HLT.out; omega, by go_num, HXF.out, HRF.out, HSF.out, HBF.out⟩
          case measure => have := HLT.out; simp [intOf]; omega
    · obtain rfl : k = x1.ns.length := by omega
      have hro := HSK.out wr HBK.out (fun _ _ _ _ _ h => h)
      rw [List.take_length] at hro
      have hga := rows_gat2 (j := sideG x0 x1) HG5.out.g hro HBK.out HRK.out rfl rfl
      have hll : x0.ns.length + x1.ns.length ≤ 4096 := by have := HL0.out; have := HL1.out; omega
      have hsm := side_may HE2.out HE3.out hll
      have hst := side_trim HE2.out HE3.out hll
      have hdr := (Below.refl wr.heap.size wr).drew
      have HBd : Hid (Below w.heap.size w wr.drew) := Lib.hid (((HB5.out.trans (HBK.out.mono HB5.out.size))).drew)
      have HGd := Lib.hid ((HG5.out.later HBK.out).later hdr)
      have HPd : Hid (GB wr.drew w5.heap.size (.slice A rl.length c) (.slice BN x0.rs.length dN) (.slice CN x0.ws.length fN) (sideG x0 x1)) := Lib.hid (GB.later ⟨HXK.out, hga⟩ hdr)
      have HMS : Hid (∀ v W, GAt W v (sideG x0 x1) → Calls Tryd.prog 7 #[v] W (BoolPost true W)) := Lib.hid (fun v W h => by rw [← hsm]; exact may_any v _ W h (side_sz HZ0.out HZ1.out))
      have HAS : Hid (∀ u v W, GAt W u x0 → GAt W v (sideG x0 x1) → Calls Tryd.prog 11 #[u, v] W (BoolPost true W)) := Lib.hid (fun u v W h1 h2 => by rw [← alike_of HE2.out hsm hst.symm]; exact Al.alike_any u v _ _ W h1 h2 HZ0.out (side_sz HZ0.out HZ1.out))
      have HT0' : Hid (∀ v W, GAt W v x0 → Calls Tryd.prog 9 #[v] W (fun e w' => ∃ v', e = .returned v' ∧ GAt w' v' (trimL x0) ∧ Below W.heap.size W w')) := Lib.hid (fun v W h => Tm.trim_any v x0 W h HZ0.out)
      have HTS' : Hid (∀ v W, GAt W v (sideG x0 x1) → Calls Tryd.prog 9 #[v] W (fun e w' => ∃ v', e = .returned v' ∧ GAt w' v' (trimL x0) ∧ Below W.heap.size W w')) := Lib.hid (fun v W h => by rw [← hst]; exact Tm.trim_any v (sideG x0 x1) W h (side_sz HZ0.out HZ1.out))
      obtain ⟨q0, hq0⟩ : ∃ q0 : ByteArray, (⟨(textR (trimL x0)).toArray⟩ : ByteArray) = q0 := ⟨_, rfl⟩
      have HTA : Hid (∀ v W, Below w.heap.size w W → GAt W v (trimL x0) → Calls Tryd.prog 10 #[v] W (fun e w' => e = .returned (.string q0) ∧ Below W.heap.size W w')) := Lib.hid (fun v W hb h => by rw [← hq0]; exact textg_any v (trimL x0) W h (trim_szL HE2.out HZ0.out) (trim_pg HE2.out HO.out).ok (HTW.out.below hb))
      have heq : (q0.toList == q0.toList) = true := by simp
      clear hro hga hll hsm hst hdr hq0 hx hb h0 h1 h2
      obtain ⟨g0, g1, g2⟩ := HGd.out.cells
      obtain ⟨p0, p1, p2⟩ := HPd.out.cells
      go_upto_region 20 with fail
      go_region_held3 (fun w' => w'.cell? ⟨w.heap.size, 0, none⟩ = some (.slice AN x0.ns.length cN) ∧ w'.cell? ⟨w.heap.size, 1, none⟩ = some (.slice BN x0.rs.length dN) ∧ w'.cell? ⟨w.heap.size, 2, none⟩ = some (.slice CN x0.ws.length fN) ∧ w'.cell? ⟨w5.heap.size, 0, none⟩ = some (.slice A rl.length c) ∧ w'.cell? ⟨w5.heap.size, 1, none⟩ = some (.slice BN x0.rs.length dN) ∧ w'.cell? ⟨w5.heap.size, 2, none⟩ = some (.slice CN x0.ws.length fN))
        (first | ((try dsimp only); refine ⟨?_, ?_, ?_, ?_, ?_, ?_⟩ <;> (with_reducible assumption)) | fail)
        (first
          | (go_at_call 7; (with_reducible show Calls _ _ _ wr.drew _); go_must (refine (HMS.out _ _ HPd.out.g).mono ?_; rintro e v1 ⟨rfl, hb⟩; have HBv1 := Lib.hid (HBd.out.trans (hb.mono HBd.out.size)); have HGv1 := Lib.hid (HGd.out.later hb); have HPv1 := Lib.hid (HPd.out.later hb); clear hb; obtain ⟨g0, g1, g2⟩ := HGv1.out.cells; obtain ⟨p0, p1, p2⟩ := HPv1.out.cells))
          | (go_at_call 11; (with_reducible show Calls _ _ _ v1 _); go_must (refine (HAS.out _ _ _ HGv1.out.g HPv1.out.g).mono ?_; rintro e v2 ⟨rfl, hb⟩; have HBv2 := Lib.hid (HBv1.out.trans (hb.mono HBv1.out.size)); have HGv2 := Lib.hid (HGv1.out.later hb); have HPv2 := Lib.hid (HPv1.out.later hb); clear hb; obtain ⟨g0, g1, g2⟩ := HGv2.out.cells; obtain ⟨p0, p1, p2⟩ := HPv2.out.cells))
          | (go_at_call 9; (with_reducible show Calls _ _ _ v2 _); go_must (refine (HT0'.out _ _ HGv2.out.g).mono ?_; rintro e v3 ⟨vt, rfl, hgt, hb⟩; have HBv3 := Lib.hid (HBv2.out.trans (hb.mono HBv2.out.size)); have HGv3 := Lib.hid (HGv2.out.later hb); have HPv3 := Lib.hid (HPv2.out.later hb); have HVT := Lib.hid hgt; clear hgt; clear hb; obtain ⟨g0, g1, g2⟩ := HGv3.out.cells; obtain ⟨p0, p1, p2⟩ := HPv3.out.cells))
          | (go_at_call 10; (with_reducible show Calls _ _ _ v3 _); go_must (refine (HTA.out _ _ HBv3.out HVT.out).mono ?_; rintro e v4 ⟨rfl, hb⟩; have HBv4 := Lib.hid (HBv3.out.trans (hb.mono HBv3.out.size)); have HGv4 := Lib.hid (HGv3.out.later hb); have HPv4 := Lib.hid (HPv3.out.later hb); clear hb; obtain ⟨g0, g1, g2⟩ := HGv4.out.cells; obtain ⟨p0, p1, p2⟩ := HPv4.out.cells))
          | (go_at_call 9; (with_reducible show Calls _ _ _ v4 _); go_must (refine (HTS'.out _ _ HPv4.out.g).mono ?_; rintro e v5 ⟨vu, rfl, hgt, hb⟩; have HBv5 := Lib.hid (HBv4.out.trans (hb.mono HBv4.out.size)); have HGv5 := Lib.hid (HGv4.out.later hb); have HPv5 := Lib.hid (HPv4.out.later hb); have HVU := Lib.hid hgt; clear hgt; clear hb; obtain ⟨g0, g1, g2⟩ := HGv5.out.cells; obtain ⟨p0, p1, p2⟩ := HPv5.out.cells))
          | (go_at_call 10; (with_reducible show Calls _ _ _ v5 _); go_must (refine (HTA.out _ _ HBv5.out HVU.out).mono ?_; rintro e v6 ⟨rfl, hb⟩; have HBv6 := Lib.hid (HBv5.out.trans (hb.mono HBv5.out.size)); have HGv6 := Lib.hid (HGv5.out.later hb); have HPv6 := Lib.hid (HPv5.out.later hb); clear hb; obtain ⟨g0, g1, g2⟩ := HGv6.out.cells; obtain ⟨p0, p1, p2⟩ := HPv6.out.cells))
          | (go_at_call 8; (with_reducible show Calls _ _ _ v6 _); go_must (refine (Aw.awake_any _).mono ?_; rintro e v7 ⟨rfl, hb⟩; have HBv7 := Lib.hid (HBv6.out.trans (hb.mono HBv6.out.size)); have HGv7 := Lib.hid (HGv6.out.later hb); have HPv7 := Lib.hid (HPv6.out.later hb); clear hb; obtain ⟨g0, g1, g2⟩ := HGv7.out.cells; obtain ⟨p0, p1, p2⟩ := HPv7.out.cells))
          | fail)
      go_wp2
      go_ret
      exact ⟨rfl, HBv7.out⟩

theorem own : ownKnob Tryd.prog.godebug = none := by kernel_rfl
theorem laidOut : laidOutB Tryd.prog = true := by kernel_rfl
set_option maxRecDepth 100000 in
theorem lifted (os : Os) (started : os.Started) (H : Type) (enc : TypeId × Value → H) :
    ReturnsInHanded {} Tryd.checked os 4 .any (fun w args => (Rows.graphSideSpec.pre enc Tryd.prog Tryd.f4 [] false w args ∧ laidMetH Tryd.prog Vt.laid w) ∧ sizedMet enc Tryd.prog Tryd.f4 (OpenSpec.ofChange Rows.graphSideSpec) false w args) (Rows.graphSideSpec.post enc Tryd.prog Tryd.f4 false true false false) := by
  refine returnsInHanded_of_change_and (C := Tryd.checked) (X := fun w _ => laidMetH Tryd.prog Vt.laid w) (fun _ _ _ hh h => h.of_heap hh) own started (by kernel_rfl) Tryd.func4
    (ChangeSpec.witness_shaped (enc := enc) (C := Tryd.checked) (os := os) (X := fun w _ => laidMetH Tryd.prog Vt.laid w) false (World.doorLaid Tryd.prog 400 os) #[.agg #[.slice none 0 0, .slice none 0 0, .slice none 0 0], .agg #[.slice none 0 0, .slice none 0 0, .slice none 0 0]] 8 rfl (World.shaped_of_RefB (by kernel_rfl) (by kernel_rfl)) (by kernel_rfl) (by kernel_rfl) (by kernel_rfl) (Vt.door_met os _)) ?_
  intro W base args ds gs before hval0 hW _ hsz0 hL _
  have hsz : (DataW.weightsEach Tryd.prog (Tryd.f4.params.toList ++ Rows.graphSideSpec.plain.varTypes Tryd.prog) (ds ++ gs)).all (· ≤ reachBytes) = true := hsz0
  have hval : ∀ (j : Nat) t v, Tryd.f4.params[j]? = some t → args[j]? = some v → Value.okWide Tryd.prog W .any base t v := hval0
  have hW' := hW
  obtain ⟨p, q, hA0, hV, rfl, hfz, hnd⟩ := hW
  have hA : DataW.TrodAll enc Tryd.prog W 0 (fun _ => true) true Tryd.f4.params.toList args.toList ds p := hA0
  rw [Tryd.params4] at hA hval hsz
  obtain ⟨v0, vs0, d0, ds0, p0, q0, hargs, rfl, rfl, h0, r0⟩ := trodAll_cons hA
  obtain ⟨v1, vs1, d1, ds1, p1, q1, rfl, rfl, rfl, h1, r1⟩ := trodAll_cons r0
  obtain ⟨rfl, rfl, rfl⟩ := trodAll_nil r1
  obtain rfl : args = #[v0, v1] := by cases args; simp_all
  obtain ⟨rfl, rfl⟩ := trodVars_none hV
  have k0 := h0
  have lt0 : ∀ x ∈ p0, x.block < W.heap.size := by obtain ⟨m, hm⟩ := k0; exact DataW.trod_lt m _ _ _ hm
  obtain ⟨fuel0, hf0⟩ := h0
  obtain ⟨x0, hk0, ok0⟩ := (Ba.opens_g3) H enc W 0 _ _ _ _ _ hf0
  have hg0 := Ba.gat_of (hval 0 25 v0 rfl rfl) hk0
  have k1 := h1
  have lt1 : ∀ x ∈ p1, x.block < W.heap.size := by obtain ⟨m, hm⟩ := k1; exact DataW.trod_lt m _ _ _ hm
  obtain ⟨fuel1, hf1⟩ := h1
  obtain ⟨x1, hk1, ok1⟩ := (Ba.opens_g3) H enc W 0 _ _ _ _ _ hf1
  have hg1 := Ba.gat_of (hval 1 25 v1 rfl rfl) hk1
  clear hA0 hval0
  refine (walk W (Vt.tab hL) _ x0 hg0 ok0 _ x1 hg1 ok1).mono fun e W' ⟨he, bel⟩ => ?_
  subst he
  exact ⟨_, rfl, _, _, _, [], _, [], hW', trodAll_mk1 (shut_bool Tryd.underlying4 _), (trodAll_cons_mk (Below.trod laidOut (by kernel_rfl) (of_decide_eq_true (by kernel_rfl)) k0 bel lt0) (trodAll_cons_mk (Below.trod laidOut (by kernel_rfl) (of_decide_eq_true (by kernel_rfl)) k1 bel lt1) trodAll_mk0)), rfl, bel.frame _, fun h => by cases h⟩
theorem over : Rows.graphSideRow.holds Tryd.pinned (OpenSpec.ofChange Rows.graphSideSpec) :=
  OpenClaim.holds_of_wide 4 Tryd.f4 rfl rfl rfl rfl rfl rfl rfl ⟨rfl, rfl, rfl, rfl, rfl⟩ rfl rfl rfl rfl rfl (by kernel_rfl) Tryd.func4 (by kernel_rfl)
    (of_decide_eq_true (by kernel_rfl)) (by unfold Func.isWrapper; first | (rw [if_pos (by decide +kernel)]; kernel_rfl) | (rw [if_neg (by decide +kernel)]; exact ⟨rfl, rfl⟩))
    (fun os started H enc _ => lifted os started H enc)
theorem proved : Rows.GraphSideCardSaid :=
  Claim7.holds_tied_plain_at .later [] [.data, .data, .data] true (true, "d175cb7290e215640c6c7df098eae224166e15dd4f9b8138b6d90375831efef9") false
    over (fun _ h => by cases h) (by kernel_rfl) (fun _ h => by cases h) graphSide_row_tie rfl ⟨rfl, rfl⟩ (by kernel_rfl) rfl
    (fun f fn hf hfn => by
      obtain rfl : f = 4 := Option.some.inj ((show Tryd.prog.funcNamed "scullion/scullionlaw12.GraphSide" = some 4 by kernel_rfl).symm.trans hf) |>.symm
      obtain rfl : fn = Tryd.f4 := (Option.some.inj (Tryd.func4.symm.trans hfn)).symm
      exact ⟨by kernel_rfl, fun j t ht => by
        rw [Tryd.params4] at ht
        have hm : t ∈ [25, 25] := by simpa using Array.mem_of_getElem? ht
        have hall : ([25, 25].all fun u => !Tryd.prog.wantsStandIn u) = true := by kernel_rfl
        exact (show Tryd.prog.wantsStandIn t = false by simpa using List.all_eq_true.1 hall t hm)⟩)
    (by kernel_rfl)
#print axioms proved
end Go.Proofs.YtdgclpgjoanimaaDoor.graphSide
