/-
  Two graphs that may be, trimmed, have one text just if they are alike; and likeness goes both ways round.
-/
import Derived.Test.YtdgclpgjoanimaaDoorRows
import Derived.WalkKit
import Derived.WalkSpells
import Derived.WalkLawsBesides
import Derived.WalkMore
import Derived.ProofKit
import Derived.OpenShut
import Derived.ShutString
import Derived.ChangeOld
import Derived.Below
import Derived.SizedLaws
import Derived.Lib.Hide
import Derived.ChangeMaps5
import Derived.Test.YtdgclpgjoanimaaDoorOpen
import Derived.Test.YtdgclpgjoanimaaDoorVt
import Derived.Test.YtdgclpgjoanimaaDoorTie
import Derived.Test.YtdgclpgjoanimaaDoorCards
import Derived.SevenTiedAt
import Derived.Test.YtdgclpgjoanimaaDoorTg
import Derived.Test.YtdgclpgjoanimaaDoorAl
import Derived.Test.YtdgclpgjoanimaaDoorSm
import Derived.Test.YtdgclpgjoanimaaDoorEq
import Derived.Test.YtdgclpgjoanimaaDoorTi
import Derived.Deep.RegionHeld3
import Derived.Deep.DeepMust
import Derived.Deep.CutRange
namespace Go.Proofs.YtdgclpgjoanimaaDoor.graphTexts
open Go.RowKit Go.ChangeShapes Go.WideShapes Go.ChangeAt Go.Proofs.YtdgclpgjoanimaaDoorW.PrintWords
set_option linter.unusedVariables false
open Go.Proofs.YtdgclpgjoanimaaDoor.Ba Go.Proofs.YtdgclpgjoanimaaDoor.Ma Go.Proofs.YtdgclpgjoanimaaDoor.Mb Go.Proofs.YtdgclpgjoanimaaDoor.Pu Go.Proofs.YtdgclpgjoanimaaDoor.To Go.Proofs.YtdgclpgjoanimaaDoor.Tr Go.Proofs.YtdgclpgjoanimaaDoor.Eq Go.Proofs.YtdgclpgjoanimaaDoor.Ld Go.Proofs.YtdgclpgjoanimaaDoor.Hx Go.Proofs.YtdgclpgjoanimaaDoor.Tb Go.Proofs.YtdgclpgjoanimaaDoor.Tg Go.Proofs.YtdgclpgjoanimaaDoor.Ti
theorem blt {w : World} {k : Nat} {o : Obj} (h : w.heap[k]? = some o) : k < w.heap.size := (Array.getElem?_eq_some_iff.1 h).1
/-- A graph in a box. -/
structure GB (W : World) (B : Nat) (s0 s1 s2 : Value) (g : G3) : Prop where
  x : W.heap[B]? = some (.cells #[s0, s1, s2] 25 (0, 0))
  g : GAt W (.agg #[s0, s1, s2]) g
theorem GB.later {W W' : World} {B : Nat} {s0 s1 s2 : Value} {g : G3} (h : GB W B s0 s1 s2 g) (hb : Below W.heap.size W W') : GB W' B s0 s1 s2 g := ⟨(hb.block _ (blt h.x)).trans h.x, h.g.below hb⟩
theorem GB.cells {W : World} {B : Nat} {s0 s1 s2 : Value} {g : G3} (h : GB W B s0 s1 s2 g) : W.cell? ⟨B, 0, none⟩ = some s0 ∧ W.cell? ⟨B, 1, none⟩ = some s1 ∧ W.cell? ⟨B, 2, none⟩ = some s2 := Bx3_one h.x
theorem heap_at1 (w : World) (a : Obj) (cs : Array Value) (ty : TypeId) : ((w.alloc a).alloc (.cells cs ty)).heap[w.heap.size + 1]? = some (.cells cs ty (0, 0)) := by
  have h := heap_alloc_new (w.alloc a) (.cells cs ty)
  rw [size_al] at h
  exact h
theorem heap_alloc_lt {w : World} {k : Nat} {o' : Obj} (o : Obj) (h : w.heap[k]? = some o') : (w.alloc o).heap[k]? = some o' := (((Below.refl w.heap.size w).alloc (Nat.le_refl _) o).block k (blt h)).trans h
theorem later_alloc {w0 w : World} (o : Obj) (h : Below w0.heap.size w0 w) : Below w0.heap.size w0 (w.alloc o) := h.alloc h.size o
def BX (w : World) (a : Nat) : Prop := w.heap[a]? = some (.cells #[.slice none 0 0, .slice none 0 0, .slice none 0 0] 25 (0, 0))
def KnowA (wk : World) (lo hi : Nat) (v : Value) (t : G3) : Prop := hi ≤ wk.heap.size ∧ ∀ W : World, (∀ k, lo ≤ k → k < hi → W.heap[k]? = wk.heap[k]?) → GAt W v t
theorem KnowA.later {wk wn : World} {lo hi : Nat} {v : Value} {t : G3} (h : KnowA wk lo hi v t) (hb : Below wk.heap.size wk wn) : KnowA wn lo hi v t :=
  ⟨Nat.le_trans h.1 hb.size, fun W hW => h.2 W fun k h1 h2 => (hW k h1 h2).trans (hb.block k (Nat.lt_of_lt_of_le h2 h.1))⟩
theorem BX.later {wk wn : World} {a : Nat} (h : BX wk a) (hb : Below wk.heap.size wk wn) : BX wn a := (hb.block _ (blt h)).trans h
theorem infoG : (Tryd.prog.info? 25).map (·.size) = some 3 := by kernel_rfl
theorem there3 {w : World} {g : Nat} {a b c : Value} (h : w.heap[g]? = some (.cells #[a, b, c] 25 (0, 0))) : w.there g 0 3 := by
  intro j hj
  refine ⟨?_, blk_frozen h _⟩
  rw [cell_of_row w g _ _ 25 (0, 0) h]
  have : j = 0 ∨ j = 1 ∨ j = 2 := by omega
  rcases this with rfl | rfl | rfl <;> rfl
theorem store3 {w : World} {g : Nat} {x y z : Value} (h : w.heap[g]? = some (.cells #[x, y, z] 25 (0, 0))) (a b c : Value) : ∃ w2, w.setCells g 0 [a, b, c] = w2 ∧ w2.heap[g]? = some (.cells #[a, b, c] 25 (0, 0)) ∧ w.grownBy w2 (some g) := by
  refine ⟨_, rfl, ?_, ?_⟩
  · have h1 := blk_set h 0 a
    have h2 := blk_set h1 1 b
    have h3 := blk_set h2 2 c
    exact h3
  · exact grown_trans (grown_trans (grown_set w g 0 a) (grown_set _ g 1 b)) (grown_set _ g 2 c)
theorem one3 (A B C : Option Addr) (l m n c d f : Nat) : (#[Value.slice A l c, Value.slice B m d, Value.slice C n f] : Array Value).all (·.oneCell') = true := by
  refine all_oneCell_toArray (cs := [Value.slice A l c, Value.slice B m d, Value.slice C n f]) fun v hv => ?_
  simp only [List.mem_cons, List.not_mem_nil, or_false] at hv
  rcases hv with rfl | rfl | rfl <;> rfl
def SS (w : World) (a b : Nat) (s0 s1 s2 r0 r1 r2 : Value) : Prop := w.cell? ⟨a, 0, none⟩ = some s0 ∧ w.cell? ⟨a, 1, none⟩ = some s1 ∧ w.cell? ⟨a, 2, none⟩ = some s2 ∧ w.cell? ⟨b, 0, none⟩ = some r0 ∧ w.cell? ⟨b, 1, none⟩ = some r1 ∧ w.cell? ⟨b, 2, none⟩ = some r2
theorem ss_of {w : World} {a b : Nat} {s0 s1 s2 r0 r1 r2 : Value} {g h : G3} (hg : GB w a s0 s1 s2 g) (hh : GB w b r0 r1 r2 h) : w.cell? ⟨a, 0, none⟩ = some s0 ∧ w.cell? ⟨a, 1, none⟩ = some s1 ∧ w.cell? ⟨a, 2, none⟩ = some s2 ∧ w.cell? ⟨b, 0, none⟩ = some r0 ∧ w.cell? ⟨b, 1, none⟩ = some r1 ∧ w.cell? ⟨b, 2, none⟩ = some r2 := by
  obtain ⟨x, y, z⟩ := hg.cells
  obtain ⟨p, q, r⟩ := hh.cells
  exact ⟨x, y, z, p, q, r⟩
theorem two_boxes {w5 wk : World} {a b la ha lb hb : Nat} {a0 a1 a2 b0 b1 b2 : Value} {t u : G3} (X5 : BX wk a) (X6 : BX wk b) (hab : a ≠ b) (KA : KnowA wk la ha (.agg #[a0, a1, a2]) t) (KB : KnowA wk lb hb (.agg #[b0, b1, b2]) u)
    (d5A : a < la ∨ ha ≤ a) (d5B : a < lb ∨ hb ≤ a) (d6A : b < la ∨ ha ≤ b) (d6B : b < lb ∨ hb ≤ b) (BEL : Below w5.heap.size w5 wk) (h5 : w5.heap.size ≤ a) (h6 : w5.heap.size ≤ b) :
    ∃ w8 w9, wk.setCells a 0 [a0, a1, a2] = w8 ∧ w8.setCells b 0 [b0, b1, b2] = w9 ∧ wk.there a 0 3 ∧ w8.there b 0 3 ∧ Below w5.heap.size w5 w8 ∧ GB w9 a a0 a1 a2 t ∧ GB w9 b b0 b1 b2 u ∧ Below w5.heap.size w5 w9 := by
  obtain ⟨w8, e8, h8, g8⟩ := store3 X5 a0 a1 a2
  have x6 : w8.heap[b]? = some (.cells #[.slice none 0 0, .slice none 0 0, .slice none 0 0] 25 (0, 0)) := (g8.block b (blt X6) (fun e => hab (by injection e with e; exact e.symm))).trans X6
  obtain ⟨w9, e9, h9, g9⟩ := store3 x6 b0 b1 b2
  have b8 : Below w5.heap.size w5 w8 := BEL.trans (Tm.below_of_grown g8 h5 BEL.size)
  have b9 : Below w5.heap.size w5 w9 := b8.trans (Tm.below_of_grown g9 h6 b8.size)
  have key : ∀ lo hi : Nat, hi ≤ wk.heap.size → (a < lo ∨ hi ≤ a) → (b < lo ∨ hi ≤ b) → ∀ k, lo ≤ k → k < hi → w9.heap[k]? = wk.heap[k]? := fun lo hi hh d1 d2 k k1 k2 =>
    (g9.block k (Nat.lt_of_lt_of_le (Nat.lt_of_lt_of_le k2 hh) g8.size) (fun e => by injection e with e; omega)).trans (g8.block k (Nat.lt_of_lt_of_le k2 hh) (fun e => by injection e with e; omega))
  refine ⟨w8, w9, e8, e9, there3 X5, there3 x6, b8, ⟨?_, KA.2 _ (key _ _ KA.1 d5A d6A)⟩, ⟨h9, KB.2 _ (key _ _ KB.1 d5B d6B)⟩, b9⟩
  exact (g9.block a (blt h8) (fun e => hab (by injection e))).trans h8
theorem tpost {g : G3} {W w' : World} {e : Ending} (h : Tm.TrimPostF g W e w') : ∃ A0 e0 A1 e1 A2 e2, e = .returned (.agg #[.slice A0 (trimL g).ns.length e0, .slice A1 (trimL g).rs.length e1, .slice A2 (trimL g).ws.length e2]) ∧ KnowA w' W.heap.size w'.heap.size (.agg #[.slice A0 (trimL g).ns.length e0, .slice A1 (trimL g).rs.length e1, .slice A2 (trimL g).ws.length e2]) (trimL g) ∧ Below W.heap.size W w' := by
  obtain ⟨v, rfl, hg, hf, hb⟩ := h
  obtain ⟨A0, e0, A1, e1, A2, e2, rfl, _⟩ := Al.ga_of hg
  exact ⟨A0, e0, A1, e1, A2, e2, rfl, ⟨Nat.le_refl _, hf⟩, hb⟩
set_option linter.unusedSimpArgs false
set_option maxHeartbeats 16000000
set_option maxRecDepth 100000
theorem walk (w : World) (HT0 : Ld.Tab w) (v0 : Value) (x0 : Ba.G3) (hk0 : Ba.GAt w v0 x0) (ok0 : Ba.ok3 x0) (v1 : Value) (x1 : Ba.G3) (hk1 : Ba.GAt w v1 x1) (ok1 : Ba.ok3 x1) :
    Calls Tryd.prog 3 #[v0, v1] w fun e w' => e = .returned (.bool true) ∧ Below w.heap.size w w' := by
  obtain ⟨AN, cN, BN, dN, CN, fN, rfl, _⟩ := Al.ga_of hk0
  obtain ⟨AM, cM, BM, dM, CM, fM, rfl, _⟩ := Al.ga_of hk1
  have HG := Lib.hid hk0
  have HH := Lib.hid hk1
  have HO := Lib.hid ok0
  have HP := Lib.hid ok1
  obtain ⟨w1, hw1⟩ : ∃ w1, (w.alloc (.cells #[.slice AN x0.ns.length cN, .slice BN x0.rs.length dN, .slice CN x0.ws.length fN] 25)).alloc (.cells #[.slice AM x1.ns.length cM, .slice BM x1.rs.length dM, .slice CM x1.ws.length fM] 25) = w1 := ⟨_, rfl⟩
  have HB1 : Hid (Below w.heap.size w w1) := Lib.hid (by rw [← hw1]; exact ((Below.refl _ _).alloc (Nat.le_refl _) _).alloc (by simp) _)
  have HG1 : Hid (GB w1 w.heap.size (.slice AN x0.ns.length cN) (.slice BN x0.rs.length dN) (.slice CN x0.ws.length fN) x0) := Lib.hid ⟨by rw [← hw1]; exact heap_alloc_lt _ (heap_alloc_new w _), hk0.below HB1.out⟩
  have HH1 : Hid (GB w1 (w.heap.size + 1) (.slice AM x1.ns.length cM) (.slice BM x1.rs.length dM) (.slice CM x1.ws.length fM) x1) := Lib.hid ⟨by rw [← hw1]; exact heap_at1 w _ _ _, hk1.below HB1.out⟩
  have HLG := Lib.hid (fun W (h : GAt W (.agg #[.slice AN x0.ns.length cN, .slice BN x0.rs.length dN, .slice CN x0.ws.length fN]) x0) => Re.light_any _ x0 W h ok0)
  have HLH := Lib.hid (fun W (h : GAt W (.agg #[.slice AM x1.ns.length cM, .slice BM x1.rs.length dM, .slice CM x1.ws.length fM]) x1) => Re.light_any _ x1 W h ok1)
  obtain ⟨g0, g1, g2⟩ := HG1.out.cells
  obtain ⟨h0, h1, h2⟩ := HH1.out.cells
  have HT1 := Lib.hid (HT0.below HB1.out)
  have HTW := Lib.hid HT0
  clear hk0 hk1 ok0 ok1 HT0
  cases e0 : Re.lightG x0
  · rw [e0] at HLG
    clear e0
    go_enter Tryd.func3, Tryd.ntmps3
    go_wp2_with fail
    refine (HLG.out _ HG1.out.g).mono ?_
    rintro e w2 ⟨rfl, hb2⟩
    have HB2 := Lib.hid (HB1.out.trans (hb2.mono HB1.out.size))
    have HG2 := Lib.hid (HG1.out.later hb2)
    have HH2 := Lib.hid (HH1.out.later hb2)
    clear hb2 g0 g1 g2 h0 h1 h2
    obtain ⟨g0, g1, g2⟩ := HG2.out.cells
    obtain ⟨h0, h1, h2⟩ := HH2.out.cells
    go_wp2_with fail
    refine (Aw.awake_any _).mono ?_
    rintro e wz ⟨rfl, hbz⟩
    have HBz := Lib.hid (HB2.out.trans (hbz.mono HB2.out.size))
    clear hbz
    go_wp2
    go_ret
    exact ⟨rfl, HBz.out⟩
  rw [e0] at HLG
  cases e1 : Re.lightG x1
  · rw [e1] at HLH
    clear e1
    go_enter Tryd.func3, Tryd.ntmps3
    go_wp2_with fail
    refine (HLG.out _ HG1.out.g).mono ?_
    rintro e w2 ⟨rfl, hb2⟩
    have HB2 := Lib.hid (HB1.out.trans (hb2.mono HB1.out.size))
    have HG2 := Lib.hid (HG1.out.later hb2)
    have HH2 := Lib.hid (HH1.out.later hb2)
    clear hb2 g0 g1 g2 h0 h1 h2
    obtain ⟨g0, g1, g2⟩ := HG2.out.cells
    obtain ⟨h0, h1, h2⟩ := HH2.out.cells
    go_wp2_with fail
    refine (HLH.out _ HH2.out.g).mono ?_
    rintro e w3 ⟨rfl, hb3⟩
    have HB3 := Lib.hid (HB2.out.trans (hb3.mono HB2.out.size))
    have HG3 := Lib.hid (HG2.out.later hb3)
    have HH3 := Lib.hid (HH2.out.later hb3)
    clear hb3 g0 g1 g2 h0 h1 h2
    obtain ⟨g0, g1, g2⟩ := HG3.out.cells
    obtain ⟨h0, h1, h2⟩ := HH3.out.cells
    go_wp2_with fail
    refine (Aw.awake_any _).mono ?_
    rintro e wz ⟨rfl, hbz⟩
    have HBz := Lib.hid (HB3.out.trans (hbz.mono HB3.out.size))
    clear hbz
    go_wp2
    go_ret
    exact ⟨rfl, HBz.out⟩
  rw [e1] at HLH
  have HMG := Lib.hid (fun W (h : GAt W (.agg #[.slice AN x0.ns.length cN, .slice BN x0.rs.length dN, .slice CN x0.ws.length fN]) x0) => may_any _ x0 W h (Re.light_sz e0))
  have HMH := Lib.hid (fun W (h : GAt W (.agg #[.slice AM x1.ns.length cM, .slice BM x1.rs.length dM, .slice CM x1.ws.length fM]) x1) => may_any _ x1 W h (Re.light_sz e1))
  cases e2 : mayG x0
  · rw [e2] at HMG
    clear e2
    go_enter Tryd.func3, Tryd.ntmps3
    go_wp2_with fail
    refine (HLG.out _ HG1.out.g).mono ?_
    rintro e w2 ⟨rfl, hb2⟩
    have HB2 := Lib.hid (HB1.out.trans (hb2.mono HB1.out.size))
    have HG2 := Lib.hid (HG1.out.later hb2)
    have HH2 := Lib.hid (HH1.out.later hb2)
    clear hb2 g0 g1 g2 h0 h1 h2
    obtain ⟨g0, g1, g2⟩ := HG2.out.cells
    obtain ⟨h0, h1, h2⟩ := HH2.out.cells
    go_wp2_with fail
    refine (HLH.out _ HH2.out.g).mono ?_
    rintro e w3 ⟨rfl, hb3⟩
    have HB3 := Lib.hid (HB2.out.trans (hb3.mono HB2.out.size))
    have HG3 := Lib.hid (HG2.out.later hb3)
    have HH3 := Lib.hid (HH2.out.later hb3)
    clear hb3 g0 g1 g2 h0 h1 h2
    obtain ⟨g0, g1, g2⟩ := HG3.out.cells
    obtain ⟨h0, h1, h2⟩ := HH3.out.cells
    go_wp2_with fail
    refine (HMG.out _ HG3.out.g).mono ?_
    rintro e w4 ⟨rfl, hb4⟩
    have HB4 := Lib.hid (HB3.out.trans (hb4.mono HB3.out.size))
    have HG4 := Lib.hid (HG3.out.later hb4)
    have HH4 := Lib.hid (HH3.out.later hb4)
    clear hb4 g0 g1 g2 h0 h1 h2
    obtain ⟨g0, g1, g2⟩ := HG4.out.cells
    obtain ⟨h0, h1, h2⟩ := HH4.out.cells
    go_wp2_with fail
    refine (Aw.awake_any _).mono ?_
    rintro e wz ⟨rfl, hbz⟩
    have HBz := Lib.hid (HB4.out.trans (hbz.mono HB4.out.size))
    clear hbz
    go_wp2
    go_ret
    exact ⟨rfl, HBz.out⟩
  rw [e2] at HMG
  cases e3 : mayG x1
  · rw [e3] at HMH
    clear e3
    go_enter Tryd.func3, Tryd.ntmps3
    go_wp2_with fail
    refine (HLG.out _ HG1.out.g).mono ?_
    rintro e w2 ⟨rfl, hb2⟩
    have HB2 := Lib.hid (HB1.out.trans (hb2.mono HB1.out.size))
    have HG2 := Lib.hid (HG1.out.later hb2)
    have HH2 := Lib.hid (HH1.out.later hb2)
    clear hb2 g0 g1 g2 h0 h1 h2
    obtain ⟨g0, g1, g2⟩ := HG2.out.cells
    obtain ⟨h0, h1, h2⟩ := HH2.out.cells
    go_wp2_with fail
    refine (HLH.out _ HH2.out.g).mono ?_
    rintro e w3 ⟨rfl, hb3⟩
    have HB3 := Lib.hid (HB2.out.trans (hb3.mono HB2.out.size))
    have HG3 := Lib.hid (HG2.out.later hb3)
    have HH3 := Lib.hid (HH2.out.later hb3)
    clear hb3 g0 g1 g2 h0 h1 h2
    obtain ⟨g0, g1, g2⟩ := HG3.out.cells
    obtain ⟨h0, h1, h2⟩ := HH3.out.cells
    go_wp2_with fail
    refine (HMG.out _ HG3.out.g).mono ?_
    rintro e w4 ⟨rfl, hb4⟩
    have HB4 := Lib.hid (HB3.out.trans (hb4.mono HB3.out.size))
    have HG4 := Lib.hid (HG3.out.later hb4)
    have HH4 := Lib.hid (HH3.out.later hb4)
    clear hb4 g0 g1 g2 h0 h1 h2
    obtain ⟨g0, g1, g2⟩ := HG4.out.cells
    obtain ⟨h0, h1, h2⟩ := HH4.out.cells
    go_wp2_with fail
    refine (HMH.out _ HH4.out.g).mono ?_
    rintro e w5 ⟨rfl, hb5⟩
    have HB5 := Lib.hid (HB4.out.trans (hb5.mono HB4.out.size))
    have HG5 := Lib.hid (HG4.out.later hb5)
    have HH5 := Lib.hid (HH4.out.later hb5)
    clear hb5 g0 g1 g2 h0 h1 h2
    obtain ⟨g0, g1, g2⟩ := HG5.out.cells
    obtain ⟨h0, h1, h2⟩ := HH5.out.cells
    go_wp2_with fail
    refine (Aw.awake_any _).mono ?_
    rintro e wz ⟨rfl, hbz⟩
    have HBz := Lib.hid (HB5.out.trans (hbz.mono HB5.out.size))
    clear hbz
    go_wp2
    go_ret
    exact ⟨rfl, HBz.out⟩
  rw [e3] at HMH
  have HE2 := Lib.hid e2
  have HE3 := Lib.hid e3
  have HZ0 := Lib.hid (Re.light_sz e0)
  have HZ1 := Lib.hid (Re.light_sz e1)
  have HTG : Hid (∀ W, GAt W (.agg #[.slice AN x0.ns.length cN, .slice BN x0.rs.length dN, .slice CN x0.ws.length fN]) x0 → Calls Tryd.prog 9 #[.agg #[.slice AN x0.ns.length cN, .slice BN x0.rs.length dN, .slice CN x0.ws.length fN]] W (fun e w' => ∃ A0 e0 A1 e1 A2 e2, e = .returned (.agg #[.slice A0 (trimL x0).ns.length e0, .slice A1 (trimL x0).rs.length e1, .slice A2 (trimL x0).ws.length e2]) ∧ KnowA w' W.heap.size w'.heap.size (.agg #[.slice A0 (trimL x0).ns.length e0, .slice A1 (trimL x0).rs.length e1, .slice A2 (trimL x0).ws.length e2]) (trimL x0) ∧ Below W.heap.size W w')) := Lib.hid (fun W h => (Tm.trim_fresh _ x0 W h HZ0.out).mono fun e w' h => tpost h)
  have HTH : Hid (∀ W, GAt W (.agg #[.slice AM x1.ns.length cM, .slice BM x1.rs.length dM, .slice CM x1.ws.length fM]) x1 → Calls Tryd.prog 9 #[.agg #[.slice AM x1.ns.length cM, .slice BM x1.rs.length dM, .slice CM x1.ws.length fM]] W (fun e w' => ∃ A0 e0 A1 e1 A2 e2, e = .returned (.agg #[.slice A0 (trimL x1).ns.length e0, .slice A1 (trimL x1).rs.length e1, .slice A2 (trimL x1).ws.length e2]) ∧ KnowA w' W.heap.size w'.heap.size (.agg #[.slice A0 (trimL x1).ns.length e0, .slice A1 (trimL x1).rs.length e1, .slice A2 (trimL x1).ws.length e2]) (trimL x1) ∧ Below W.heap.size W w')) := Lib.hid (fun W h => (Tm.trim_fresh _ x1 W h HZ1.out).mono fun e w' h => tpost h)
  clear e0 e1 e2 e3
  go_enter Tryd.func3, Tryd.ntmps3
  go_wp2_with fail
  refine (HLG.out _ HG1.out.g).mono ?_
  rintro e w2 ⟨rfl, hb2⟩
  have HB2 := Lib.hid (HB1.out.trans (hb2.mono HB1.out.size))
  have HG2 := Lib.hid (HG1.out.later hb2)
  have HH2 := Lib.hid (HH1.out.later hb2)
  clear hb2 g0 g1 g2 h0 h1 h2
  obtain ⟨g0, g1, g2⟩ := HG2.out.cells
  obtain ⟨h0, h1, h2⟩ := HH2.out.cells
  go_wp2_with fail
  refine (HLH.out _ HH2.out.g).mono ?_
  rintro e w3 ⟨rfl, hb3⟩
  have HB3 := Lib.hid (HB2.out.trans (hb3.mono HB2.out.size))
  have HG3 := Lib.hid (HG2.out.later hb3)
  have HH3 := Lib.hid (HH2.out.later hb3)
  clear hb3 g0 g1 g2 h0 h1 h2
  obtain ⟨g0, g1, g2⟩ := HG3.out.cells
  obtain ⟨h0, h1, h2⟩ := HH3.out.cells
  go_wp2_with fail
  refine (HMG.out _ HG3.out.g).mono ?_
  rintro e w4 ⟨rfl, hb4⟩
  have HB4 := Lib.hid (HB3.out.trans (hb4.mono HB3.out.size))
  have HG4 := Lib.hid (HG3.out.later hb4)
  have HH4 := Lib.hid (HH3.out.later hb4)
  clear hb4 g0 g1 g2 h0 h1 h2
  obtain ⟨g0, g1, g2⟩ := HG4.out.cells
  obtain ⟨h0, h1, h2⟩ := HH4.out.cells
  go_wp2_with fail
  refine (HMH.out _ HH4.out.g).mono ?_
  rintro e w5 ⟨rfl, hb5⟩
  have HB5 := Lib.hid (HB4.out.trans (hb5.mono HB4.out.size))
  have HG5 := Lib.hid (HG4.out.later hb5)
  have HH5 := Lib.hid (HH4.out.later hb5)
  clear hb5 g0 g1 g2 h0 h1 h2
  obtain ⟨g0, g1, g2⟩ := HG5.out.cells
  obtain ⟨h0, h1, h2⟩ := HH5.out.cells
  go_upto_region 3 with fail
  go_cut [5, 6] from 26 to 29 (fun s5 s6 wd => ∃ p q, s5 = .pointer (some ⟨p, 0, none⟩) ∧ s6 = .pointer (some ⟨q, 0, none⟩) ∧ (∃ A0 A1 A2, GB wd p A0 A1 A2 (trimL x0)) ∧ (∃ A0 A1 A2, GB wd q A0 A1 A2 (trimL x1)) ∧ Below w5.heap.size w5 wd)
  case first =>
    refine wp_region_noPanic ?_
    refine wp_region_held_drew (S := (fun w' => w'.cell? ⟨w.heap.size, 0, none⟩ = some (.slice AN x0.ns.length cN) ∧ w'.cell? ⟨w.heap.size, 1, none⟩ = some (.slice BN x0.rs.length dN) ∧ w'.cell? ⟨w.heap.size, 2, none⟩ = some (.slice CN x0.ws.length fN) ∧ w'.cell? ⟨w.heap.size + 1, 0, none⟩ = some (.slice AM x1.ns.length cM) ∧ w'.cell? ⟨w.heap.size + 1, 1, none⟩ = some (.slice BM x1.rs.length dM) ∧ w'.cell? ⟨w.heap.size + 1, 2, none⟩ = some (.slice CM x1.ws.length fM))) (by kernel_rfl) ?_ (fun hHeld => ?_)
    · exact ss_of (HG5.out.later (Below.refl _ _).drew) (HH5.out.later (Below.refl _ _).drew)
    obtain ⟨wk, hwk⟩ : ∃ wk, w5.drew = wk := ⟨_, rfl⟩
    rw [hwk] at hHeld ⊢
    have BEL : Hid (Below w5.heap.size w5 wk) := Lib.hid (by rw [← hwk]; exact (Below.refl _ _).drew)
    have HGk := Lib.hid (HG5.out.later BEL.out)
    have HHk := Lib.hid (HH5.out.later BEL.out)
    clear hwk g0 g1 g2 h0 h1 h2
    refine wpAnyH_take (i := 0) (oi := { dst := some 26, op := Go.Op.load 25 (Go.Operand.tmp 2), type := 25, pos := "more.go:16", after := #[], guard := none }) (v := .agg #[.slice AN x0.ns.length cN, .slice BN x0.rs.length dN, .slice CN x0.ws.length fN]) rfl (by kernel_rfl) (by kernel_rfl) (by kernel_rfl) (fun _ _ _ h => h) (Or.inl ⟨by rfl, ?_⟩) hHeld ?_
    · intro w' hSw; (try dsimp only at hSw); go_simp
    try simp only [Act.put, List.setIfInBounds_toArray, List.set_cons_zero, List.set_cons_succ]
    refine wpAnyH_take (i := 2) (oi := { dst := some 28, op := Go.Op.load 25 (Go.Operand.tmp 3), type := 25, pos := "more.go:16", after := #[], guard := none }) (v := .agg #[.slice AM x1.ns.length cM, .slice BM x1.rs.length dM, .slice CM x1.ws.length fM]) rfl (by kernel_rfl) (by kernel_rfl) (by kernel_rfl) (fun _ _ _ h => h) (Or.inl ⟨by rfl, ?_⟩) hHeld ?_
    · intro w' hSw; (try dsimp only at hSw); go_simp
    try simp only [Act.put, List.setIfInBounds_toArray, List.set_cons_zero, List.set_cons_succ]
    refine wpAnyH_ready (rs := [1, 4, 5]) (by kernel_rfl) (by simp) ?_
    refine AllReadyH.cons (o := { dst := some 27, op := Go.Op.call { callee := Go.Callee.value (Go.Operand.func 9), args := #[Go.Operand.tmp 26], argTypes := #[25] }, type := 25, pos := "more.go:16", after := #[{ on := 0, ground := Go.Ground.data }], guard := none }) rfl (fun K hK => ?_) ?_
    · go_simp
      refine (HTG.out wk HGk.out.g).mono ?_
      rintro ee wn ⟨A0, e0, A1, e1, A2, e2, rfl, hkn, hbn⟩
      have BELn := Lib.hid (BEL.out.trans (hbn.mono BEL.out.size))
      have HGn := Lib.hid (HGk.out.later hbn)
      have HHn := Lib.hid (HHk.out.later hbn)
      have KA := Lib.hid hkn
      clear hkn
      obtain ⟨la, hla⟩ : ∃ n, wk.heap.size = n := ⟨_, rfl⟩
      obtain ⟨ha, hha⟩ : ∃ n, wn.heap.size = n := ⟨_, rfl⟩
      rw [hla, hha] at KA
      clear hla hha
      refine hK.out _ _ ?_ (fun hHeld => ?_)
      · exact ss_of HGn.out HHn.out
      clear hK K hbn
      try simp only [Act.put, List.setIfInBounds_toArray, List.set_cons_zero, List.set_cons_succ]
      obtain ⟨wk, rfl⟩ : ∃ wk : World, wk = wn := ⟨_, rfl⟩
      obtain ⟨HGk, HHk, BEL⟩ := And.intro HGn (And.intro HHn BELn)
      clear HGn HHn BELn
      refine wpAnyH_ready (rs := [3, 4, 5]) (by kernel_rfl) (by simp) ?_
      refine AllReadyH.cons (o := { dst := some 29, op := Go.Op.call { callee := Go.Callee.value (Go.Operand.func 9), args := #[Go.Operand.tmp 28], argTypes := #[25] }, type := 25, pos := "more.go:16", after := #[{ on := 2, ground := Go.Ground.data }, { on := 1, ground := Go.Ground.chain }], guard := none }) rfl (fun K hK => ?_) ?_
      · go_simp
        refine (HTH.out wk HHk.out.g).mono ?_
        rintro ee wn ⟨C0, j0, C1, j1, C2, j2, rfl, hkn, hbn⟩
        have BELn := Lib.hid (BEL.out.trans (hbn.mono BEL.out.size))
        have HGn := Lib.hid (HGk.out.later hbn)
        have HHn := Lib.hid (HHk.out.later hbn)
        have KA := Lib.hid (KA.out.later hbn)
        have KB := Lib.hid hkn
        clear hkn
        obtain ⟨lb, hlb⟩ : ∃ n, wk.heap.size = n := ⟨_, rfl⟩
        obtain ⟨hb, hhb⟩ : ∃ n, wn.heap.size = n := ⟨_, rfl⟩
        rw [hlb, hhb] at KB
        clear hlb hhb
        refine hK.out _ _ ?_ (fun hHeld => ?_)
        · exact ss_of HGn.out HHn.out
        clear hK K hbn
        try simp only [Act.put, List.setIfInBounds_toArray, List.set_cons_zero, List.set_cons_succ]
        obtain ⟨wk, rfl⟩ : ∃ wk : World, wk = wn := ⟨_, rfl⟩
        obtain ⟨HGk, HHk, BEL⟩ := And.intro HGn (And.intro HHn BELn)
        clear HGn HHn BELn
        refine wpAnyH_ready (rs := [4, 5]) (by kernel_rfl) (by simp) ?_
        refine AllReadyH.cons (o := { dst := some 5, op := Go.Op.alloc 25, type := 0, pos := "more.go:16", after := #[], guard := none }) rfl (fun K hK => ?_) ?_
        · go_simp
          obtain ⟨wn, hwn⟩ : ∃ wn, wk.alloc (.cells #[.slice none 0 0, .slice none 0 0, .slice none 0 0] 25) = wn := ⟨_, rfl⟩
          rw [hwn]
          have hbn : Below wk.heap.size wk wn := by rw [← hwn]; exact bel_one _ _
          have D5A : Hid (wk.heap.size < la ∨ ha ≤ wk.heap.size) := Lib.hid (.inr KA.out.1)
          have D5B : Hid (wk.heap.size < lb ∨ hb ≤ wk.heap.size) := Lib.hid (.inr KB.out.1)
          have L5 : Hid (w5.heap.size ≤ wk.heap.size) := Lib.hid BEL.out.size
          have BELn := Lib.hid (BEL.out.trans (hbn.mono BEL.out.size))
          have HGn := Lib.hid (HGk.out.later hbn)
          have HHn := Lib.hid (HHk.out.later hbn)
          have KA := Lib.hid (KA.out.later hbn)
          have KB := Lib.hid (KB.out.later hbn)
          have X5 : Hid (BX wn wk.heap.size) := Lib.hid (by rw [← hwn]; exact heap_alloc_new _ _)
          clear hwn
          obtain ⟨a5, ha5⟩ : ∃ n, wk.heap.size = n := ⟨_, rfl⟩
          rw [ha5] at X5 L5 D5A D5B ⊢
          clear ha5
          refine hK.out _ _ ?_ (fun hHeld => ?_)
          · exact ss_of HGn.out HHn.out
          clear hK K hbn
          try simp only [Act.put, List.setIfInBounds_toArray, List.set_cons_zero, List.set_cons_succ]
          obtain ⟨wk, rfl⟩ : ∃ wk : World, wk = wn := ⟨_, rfl⟩
          obtain ⟨HGk, HHk, BEL⟩ := And.intro HGn (And.intro HHn BELn)
          clear HGn HHn BELn
          refine wpAnyH_ready (rs := [5]) (by kernel_rfl) (by simp) ?_
          refine AllReadyH.cons (o := { dst := some 6, op := Go.Op.alloc 25, type := 0, pos := "more.go:16", after := #[], guard := none }) rfl (fun K hK => ?_) ?_
          · go_simp
            obtain ⟨wn, hwn⟩ : ∃ wn, wk.alloc (.cells #[.slice none 0 0, .slice none 0 0, .slice none 0 0] 25) = wn := ⟨_, rfl⟩
            rw [hwn]
            have hbn : Below wk.heap.size wk wn := by rw [← hwn]; exact bel_one _ _
            have D56 : Hid (a5 ≠ wk.heap.size) := Lib.hid (Nat.ne_of_lt (blt X5.out))
            have D6A : Hid (wk.heap.size < la ∨ ha ≤ wk.heap.size) := Lib.hid (.inr KA.out.1)
            have D6B : Hid (wk.heap.size < lb ∨ hb ≤ wk.heap.size) := Lib.hid (.inr KB.out.1)
            have L6 : Hid (w5.heap.size ≤ wk.heap.size) := Lib.hid BEL.out.size
            have BELn := Lib.hid (BEL.out.trans (hbn.mono BEL.out.size))
            have HGn := Lib.hid (HGk.out.later hbn)
            have HHn := Lib.hid (HHk.out.later hbn)
            have X5 := Lib.hid (X5.out.later hbn)
            have KA := Lib.hid (KA.out.later hbn)
            have KB := Lib.hid (KB.out.later hbn)
            have X6 : Hid (BX wn wk.heap.size) := Lib.hid (by rw [← hwn]; exact heap_alloc_new _ _)
            clear hwn
            obtain ⟨a6, ha6⟩ : ∃ n, wk.heap.size = n := ⟨_, rfl⟩
            rw [ha6] at X6 L6 D56 D6A D6B ⊢
            clear ha6
            refine hK.out _ _ ?_ (fun hHeld => ?_)
            · exact ss_of HGn.out HHn.out
            clear hK K hbn
            try simp only [Act.put, List.setIfInBounds_toArray, List.set_cons_zero, List.set_cons_succ]
            obtain ⟨wk, rfl⟩ : ∃ wk : World, wk = wn := ⟨_, rfl⟩
            obtain ⟨HGk, HHk, BEL⟩ := And.intro HGn (And.intro HHn BELn)
            clear HGn HHn BELn
            obtain ⟨w8, w9, e8, e9, th5, th6, b8, gb5, gb6, b9⟩ := two_boxes X5.out X6.out D56.out KA.out KB.out D5A.out D5B.out D6A.out D6B.out BEL.out L5.out L6.out
            have B8 := Lib.hid b8
            have B9 := Lib.hid b9
            have GB5 := Lib.hid gb5
            have GB6 := Lib.hid gb6
            have TH6 := Lib.hid th6
            clear b8 b9 gb5 gb6 th6
            refine wpAnyH_ready (rs := [6]) (by kernel_rfl) (by simp) ?_
            refine AllReadyH.cons (o := { dst := none, op := Go.Op.store 25 (Go.Operand.tmp 5) (Go.Operand.tmp 27), type := 0, pos := "more.go:16", after := #[{ on := 4, ground := Go.Ground.data }, { on := 1, ground := Go.Ground.data }, { on := 3, ground := Go.Ground.chain }, { on := 0, ground := Go.Ground.phase }, { on := 1, ground := Go.Ground.phase }, { on := 2, ground := Go.Ground.textOnly Go.Departure.lateStores }, { on := 3, ground := Go.Ground.textOnly Go.Departure.lateStoresUnsure }, { on := 4, ground := Go.Ground.phase }, { on := 5, ground := Go.Ground.phase }], guard := none }) rfl (fun K hK => ?_) AllReadyH.nil
            rw [if_pos (by rfl)]
            refine wp_store_mid 25 (.tmp 5) (.tmp 27) rfl _ 0 #[.slice A0 (trimL x0).ns.length e0, .slice A1 (trimL x0).rs.length e1, .slice A2 (trimL x0).ws.length e2] rfl rfl th5 infoG (one3 _ _ _ _ _ _ _ _ _) ?_
            rw [e8]
            refine hK.out _ _ ?_ (fun hHeld => ?_)
            · exact ss_of (HG5.out.later B8.out) (HH5.out.later B8.out)
            clear hK K
            try simp only [Act.put, List.setIfInBounds_toArray, List.set_cons_zero, List.set_cons_succ]
            refine wpAnyH_ready (rs := [7]) (by kernel_rfl) (by simp) ?_
            refine AllReadyH.cons (o := { dst := none, op := Go.Op.store 25 (Go.Operand.tmp 6) (Go.Operand.tmp 29), type := 0, pos := "more.go:16", after := #[{ on := 5, ground := Go.Ground.data }, { on := 3, ground := Go.Ground.data }, { on := 6, ground := Go.Ground.chain }, { on := 0, ground := Go.Ground.phase }, { on := 1, ground := Go.Ground.phase }, { on := 2, ground := Go.Ground.phase }, { on := 3, ground := Go.Ground.phase }, { on := 4, ground := Go.Ground.phase }, { on := 5, ground := Go.Ground.phase }, { on := 6, ground := Go.Ground.phase }], guard := none }) rfl (fun K hK => ?_) AllReadyH.nil
            rw [if_pos (by rfl)]
            refine wp_store_mid 25 (.tmp 6) (.tmp 29) rfl _ 0 #[.slice C0 (trimL x1).ns.length j0, .slice C1 (trimL x1).rs.length j1, .slice C2 (trimL x1).ws.length j2] rfl rfl TH6.out infoG (one3 _ _ _ _ _ _ _ _ _) ?_
            rw [e9]
            refine hK.out _ _ ?_ (fun hHeld => ?_)
            · exact ss_of (HG5.out.later B9.out) (HH5.out.later B9.out)
            clear hK K
            try simp only [Act.put, List.setIfInBounds_toArray, List.set_cons_zero, List.set_cons_succ]
            refine wpAnyH_done (by kernel_rfl) ?_ _
            refine NoPanic.normal ?_
            clear e8 e9
            go_wp2_with fail
            go_meet
            exact ⟨_, _, rfl, rfl, ⟨_, _, _, GB5.out⟩, ⟨_, _, _, GB6.out⟩, B9.out⟩
          exact AllReadyH.nil
        refine AllReadyH.cons (o := { dst := some 6, op := Go.Op.alloc 25, type := 0, pos := "more.go:16", after := #[], guard := none }) rfl (fun K hK => ?_) ?_
        · go_simp
          obtain ⟨wn, hwn⟩ : ∃ wn, wk.alloc (.cells #[.slice none 0 0, .slice none 0 0, .slice none 0 0] 25) = wn := ⟨_, rfl⟩
          rw [hwn]
          have hbn : Below wk.heap.size wk wn := by rw [← hwn]; exact bel_one _ _
          have D6A : Hid (wk.heap.size < la ∨ ha ≤ wk.heap.size) := Lib.hid (.inr KA.out.1)
          have D6B : Hid (wk.heap.size < lb ∨ hb ≤ wk.heap.size) := Lib.hid (.inr KB.out.1)
          have L6 : Hid (w5.heap.size ≤ wk.heap.size) := Lib.hid BEL.out.size
          have BELn := Lib.hid (BEL.out.trans (hbn.mono BEL.out.size))
          have HGn := Lib.hid (HGk.out.later hbn)
          have HHn := Lib.hid (HHk.out.later hbn)
          have KA := Lib.hid (KA.out.later hbn)
          have KB := Lib.hid (KB.out.later hbn)
          have X6 : Hid (BX wn wk.heap.size) := Lib.hid (by rw [← hwn]; exact heap_alloc_new _ _)
          clear hwn
          obtain ⟨a6, ha6⟩ : ∃ n, wk.heap.size = n := ⟨_, rfl⟩
          rw [ha6] at X6 L6 D6A D6B ⊢
          clear ha6
          refine hK.out _ _ ?_ (fun hHeld => ?_)
          · exact ss_of HGn.out HHn.out
          clear hK K hbn
          try simp only [Act.put, List.setIfInBounds_toArray, List.set_cons_zero, List.set_cons_succ]
          obtain ⟨wk, rfl⟩ : ∃ wk : World, wk = wn := ⟨_, rfl⟩
          obtain ⟨HGk, HHk, BEL⟩ := And.intro HGn (And.intro HHn BELn)
          clear HGn HHn BELn
          refine wpAnyH_ready (rs := [4]) (by kernel_rfl) (by simp) ?_
          refine AllReadyH.cons (o := { dst := some 5, op := Go.Op.alloc 25, type := 0, pos := "more.go:16", after := #[], guard := none }) rfl (fun K hK => ?_) ?_
          · go_simp
            obtain ⟨wn, hwn⟩ : ∃ wn, wk.alloc (.cells #[.slice none 0 0, .slice none 0 0, .slice none 0 0] 25) = wn := ⟨_, rfl⟩
            rw [hwn]
            have hbn : Below wk.heap.size wk wn := by rw [← hwn]; exact bel_one _ _
            have D56 : Hid (wk.heap.size ≠ a6) := Lib.hid (Ne.symm (Nat.ne_of_lt (blt X6.out)))
            have D5A : Hid (wk.heap.size < la ∨ ha ≤ wk.heap.size) := Lib.hid (.inr KA.out.1)
            have D5B : Hid (wk.heap.size < lb ∨ hb ≤ wk.heap.size) := Lib.hid (.inr KB.out.1)
            have L5 : Hid (w5.heap.size ≤ wk.heap.size) := Lib.hid BEL.out.size
            have BELn := Lib.hid (BEL.out.trans (hbn.mono BEL.out.size))
            have HGn := Lib.hid (HGk.out.later hbn)
            have HHn := Lib.hid (HHk.out.later hbn)
            have X6 := Lib.hid (X6.out.later hbn)
            have KA := Lib.hid (KA.out.later hbn)
            have KB := Lib.hid (KB.out.later hbn)
            have X5 : Hid (BX wn wk.heap.size) := Lib.hid (by rw [← hwn]; exact heap_alloc_new _ _)
            clear hwn
            obtain ⟨a5, ha5⟩ : ∃ n, wk.heap.size = n := ⟨_, rfl⟩
            rw [ha5] at X5 L5 D56 D5A D5B ⊢
            clear ha5
            refine hK.out _ _ ?_ (fun hHeld => ?_)
            · exact ss_of HGn.out HHn.out
            clear hK K hbn
            try simp only [Act.put, List.setIfInBounds_toArray, List.set_cons_zero, List.set_cons_succ]
            obtain ⟨wk, rfl⟩ : ∃ wk : World, wk = wn := ⟨_, rfl⟩
            obtain ⟨HGk, HHk, BEL⟩ := And.intro HGn (And.intro HHn BELn)
            clear HGn HHn BELn
            obtain ⟨w8, w9, e8, e9, th5, th6, b8, gb5, gb6, b9⟩ := two_boxes X5.out X6.out D56.out KA.out KB.out D5A.out D5B.out D6A.out D6B.out BEL.out L5.out L6.out
            have B8 := Lib.hid b8
            have B9 := Lib.hid b9
            have GB5 := Lib.hid gb5
            have GB6 := Lib.hid gb6
            have TH6 := Lib.hid th6
            clear b8 b9 gb5 gb6 th6
            refine wpAnyH_ready (rs := [6]) (by kernel_rfl) (by simp) ?_
            refine AllReadyH.cons (o := { dst := none, op := Go.Op.store 25 (Go.Operand.tmp 5) (Go.Operand.tmp 27), type := 0, pos := "more.go:16", after := #[{ on := 4, ground := Go.Ground.data }, { on := 1, ground := Go.Ground.data }, { on := 3, ground := Go.Ground.chain }, { on := 0, ground := Go.Ground.phase }, { on := 1, ground := Go.Ground.phase }, { on := 2, ground := Go.Ground.textOnly Go.Departure.lateStores }, { on := 3, ground := Go.Ground.textOnly Go.Departure.lateStoresUnsure }, { on := 4, ground := Go.Ground.phase }, { on := 5, ground := Go.Ground.phase }], guard := none }) rfl (fun K hK => ?_) AllReadyH.nil
            rw [if_pos (by rfl)]
            refine wp_store_mid 25 (.tmp 5) (.tmp 27) rfl _ 0 #[.slice A0 (trimL x0).ns.length e0, .slice A1 (trimL x0).rs.length e1, .slice A2 (trimL x0).ws.length e2] rfl rfl th5 infoG (one3 _ _ _ _ _ _ _ _ _) ?_
            rw [e8]
            refine hK.out _ _ ?_ (fun hHeld => ?_)
            · exact ss_of (HG5.out.later B8.out) (HH5.out.later B8.out)
            clear hK K
            try simp only [Act.put, List.setIfInBounds_toArray, List.set_cons_zero, List.set_cons_succ]
            refine wpAnyH_ready (rs := [7]) (by kernel_rfl) (by simp) ?_
            refine AllReadyH.cons (o := { dst := none, op := Go.Op.store 25 (Go.Operand.tmp 6) (Go.Operand.tmp 29), type := 0, pos := "more.go:16", after := #[{ on := 5, ground := Go.Ground.data }, { on := 3, ground := Go.Ground.data }, { on := 6, ground := Go.Ground.chain }, { on := 0, ground := Go.Ground.phase }, { on := 1, ground := Go.Ground.phase }, { on := 2, ground := Go.Ground.phase }, { on := 3, ground := Go.Ground.phase }, { on := 4, ground := Go.Ground.phase }, { on := 5, ground := Go.Ground.phase }, { on := 6, ground := Go.Ground.phase }], guard := none }) rfl (fun K hK => ?_) AllReadyH.nil
            rw [if_pos (by rfl)]
            refine wp_store_mid 25 (.tmp 6) (.tmp 29) rfl _ 0 #[.slice C0 (trimL x1).ns.length j0, .slice C1 (trimL x1).rs.length j1, .slice C2 (trimL x1).ws.length j2] rfl rfl TH6.out infoG (one3 _ _ _ _ _ _ _ _ _) ?_
            rw [e9]
            refine hK.out _ _ ?_ (fun hHeld => ?_)
            · exact ss_of (HG5.out.later B9.out) (HH5.out.later B9.out)
            clear hK K
            try simp only [Act.put, List.setIfInBounds_toArray, List.set_cons_zero, List.set_cons_succ]
            refine wpAnyH_done (by kernel_rfl) ?_ _
            refine NoPanic.normal ?_
            clear e8 e9
            go_wp2_with fail
            go_meet
            exact ⟨_, _, rfl, rfl, ⟨_, _, _, GB5.out⟩, ⟨_, _, _, GB6.out⟩, B9.out⟩
          exact AllReadyH.nil
        exact AllReadyH.nil
      refine AllReadyH.cons (o := { dst := some 5, op := Go.Op.alloc 25, type := 0, pos := "more.go:16", after := #[], guard := none }) rfl (fun K hK => ?_) ?_
      · go_simp
        obtain ⟨wn, hwn⟩ : ∃ wn, wk.alloc (.cells #[.slice none 0 0, .slice none 0 0, .slice none 0 0] 25) = wn := ⟨_, rfl⟩
        rw [hwn]
        have hbn : Below wk.heap.size wk wn := by rw [← hwn]; exact bel_one _ _
        have D5A : Hid (wk.heap.size < la ∨ ha ≤ wk.heap.size) := Lib.hid (.inr KA.out.1)
        have L5 : Hid (w5.heap.size ≤ wk.heap.size) := Lib.hid BEL.out.size
        have BELn := Lib.hid (BEL.out.trans (hbn.mono BEL.out.size))
        have HGn := Lib.hid (HGk.out.later hbn)
        have HHn := Lib.hid (HHk.out.later hbn)
        have KA := Lib.hid (KA.out.later hbn)
        have X5 : Hid (BX wn wk.heap.size) := Lib.hid (by rw [← hwn]; exact heap_alloc_new _ _)
        clear hwn
        obtain ⟨a5, ha5⟩ : ∃ n, wk.heap.size = n := ⟨_, rfl⟩
        rw [ha5] at X5 L5 D5A ⊢
        clear ha5
        refine hK.out _ _ ?_ (fun hHeld => ?_)
        · exact ss_of HGn.out HHn.out
        clear hK K hbn
        try simp only [Act.put, List.setIfInBounds_toArray, List.set_cons_zero, List.set_cons_succ]
        obtain ⟨wk, rfl⟩ : ∃ wk : World, wk = wn := ⟨_, rfl⟩
        obtain ⟨HGk, HHk, BEL⟩ := And.intro HGn (And.intro HHn BELn)
        clear HGn HHn BELn
        refine wpAnyH_ready (rs := [3, 5]) (by kernel_rfl) (by simp) ?_
        refine AllReadyH.cons (o := { dst := some 29, op := Go.Op.call { callee := Go.Callee.value (Go.Operand.func 9), args := #[Go.Operand.tmp 28], argTypes := #[25] }, type := 25, pos := "more.go:16", after := #[{ on := 2, ground := Go.Ground.data }, { on := 1, ground := Go.Ground.chain }], guard := none }) rfl (fun K hK => ?_) ?_
        · go_simp
          refine (HTH.out wk HHk.out.g).mono ?_
          rintro ee wn ⟨C0, j0, C1, j1, C2, j2, rfl, hkn, hbn⟩
          have D5B : Hid (a5 < wk.heap.size ∨ wn.heap.size ≤ a5) := Lib.hid (.inl (blt X5.out))
          have BELn := Lib.hid (BEL.out.trans (hbn.mono BEL.out.size))
          have HGn := Lib.hid (HGk.out.later hbn)
          have HHn := Lib.hid (HHk.out.later hbn)
          have X5 := Lib.hid (X5.out.later hbn)
          have KA := Lib.hid (KA.out.later hbn)
          have KB := Lib.hid hkn
          clear hkn
          obtain ⟨lb, hlb⟩ : ∃ n, wk.heap.size = n := ⟨_, rfl⟩
          obtain ⟨hb, hhb⟩ : ∃ n, wn.heap.size = n := ⟨_, rfl⟩
          rw [hlb, hhb] at KB
          rw [hlb, hhb] at D5B
          clear hlb hhb
          refine hK.out _ _ ?_ (fun hHeld => ?_)
          · exact ss_of HGn.out HHn.out
          clear hK K hbn
          try simp only [Act.put, List.setIfInBounds_toArray, List.set_cons_zero, List.set_cons_succ]
          obtain ⟨wk, rfl⟩ : ∃ wk : World, wk = wn := ⟨_, rfl⟩
          obtain ⟨HGk, HHk, BEL⟩ := And.intro HGn (And.intro HHn BELn)
          clear HGn HHn BELn
          refine wpAnyH_ready (rs := [5]) (by kernel_rfl) (by simp) ?_
          refine AllReadyH.cons (o := { dst := some 6, op := Go.Op.alloc 25, type := 0, pos := "more.go:16", after := #[], guard := none }) rfl (fun K hK => ?_) ?_
          · go_simp
            obtain ⟨wn, hwn⟩ : ∃ wn, wk.alloc (.cells #[.slice none 0 0, .slice none 0 0, .slice none 0 0] 25) = wn := ⟨_, rfl⟩
            rw [hwn]
            have hbn : Below wk.heap.size wk wn := by rw [← hwn]; exact bel_one _ _
            have D56 : Hid (a5 ≠ wk.heap.size) := Lib.hid (Nat.ne_of_lt (blt X5.out))
            have D6A : Hid (wk.heap.size < la ∨ ha ≤ wk.heap.size) := Lib.hid (.inr KA.out.1)
            have D6B : Hid (wk.heap.size < lb ∨ hb ≤ wk.heap.size) := Lib.hid (.inr KB.out.1)
            have L6 : Hid (w5.heap.size ≤ wk.heap.size) := Lib.hid BEL.out.size
            have BELn := Lib.hid (BEL.out.trans (hbn.mono BEL.out.size))
            have HGn := Lib.hid (HGk.out.later hbn)
            have HHn := Lib.hid (HHk.out.later hbn)
            have X5 := Lib.hid (X5.out.later hbn)
            have KA := Lib.hid (KA.out.later hbn)
            have KB := Lib.hid (KB.out.later hbn)
            have X6 : Hid (BX wn wk.heap.size) := Lib.hid (by rw [← hwn]; exact heap_alloc_new _ _)
            clear hwn
            obtain ⟨a6, ha6⟩ : ∃ n, wk.heap.size = n := ⟨_, rfl⟩
            rw [ha6] at X6 L6 D56 D6A D6B ⊢
            clear ha6
            refine hK.out _ _ ?_ (fun hHeld => ?_)
            · exact ss_of HGn.out HHn.out
            clear hK K hbn
            try simp only [Act.put, List.setIfInBounds_toArray, List.set_cons_zero, List.set_cons_succ]
            obtain ⟨wk, rfl⟩ : ∃ wk : World, wk = wn := ⟨_, rfl⟩
            obtain ⟨HGk, HHk, BEL⟩ := And.intro HGn (And.intro HHn BELn)
            clear HGn HHn BELn
            obtain ⟨w8, w9, e8, e9, th5, th6, b8, gb5, gb6, b9⟩ := two_boxes X5.out X6.out D56.out KA.out KB.out D5A.out D5B.out D6A.out D6B.out BEL.out L5.out L6.out
            have B8 := Lib.hid b8
            have B9 := Lib.hid b9
            have GB5 := Lib.hid gb5
            have GB6 := Lib.hid gb6
            have TH6 := Lib.hid th6
            clear b8 b9 gb5 gb6 th6
            refine wpAnyH_ready (rs := [6]) (by kernel_rfl) (by simp) ?_
            refine AllReadyH.cons (o := { dst := none, op := Go.Op.store 25 (Go.Operand.tmp 5) (Go.Operand.tmp 27), type := 0, pos := "more.go:16", after := #[{ on := 4, ground := Go.Ground.data }, { on := 1, ground := Go.Ground.data }, { on := 3, ground := Go.Ground.chain }, { on := 0, ground := Go.Ground.phase }, { on := 1, ground := Go.Ground.phase }, { on := 2, ground := Go.Ground.textOnly Go.Departure.lateStores }, { on := 3, ground := Go.Ground.textOnly Go.Departure.lateStoresUnsure }, { on := 4, ground := Go.Ground.phase }, { on := 5, ground := Go.Ground.phase }], guard := none }) rfl (fun K hK => ?_) AllReadyH.nil
            rw [if_pos (by rfl)]
            refine wp_store_mid 25 (.tmp 5) (.tmp 27) rfl _ 0 #[.slice A0 (trimL x0).ns.length e0, .slice A1 (trimL x0).rs.length e1, .slice A2 (trimL x0).ws.length e2] rfl rfl th5 infoG (one3 _ _ _ _ _ _ _ _ _) ?_
            rw [e8]
            refine hK.out _ _ ?_ (fun hHeld => ?_)
            · exact ss_of (HG5.out.later B8.out) (HH5.out.later B8.out)
            clear hK K
            try simp only [Act.put, List.setIfInBounds_toArray, List.set_cons_zero, List.set_cons_succ]
            refine wpAnyH_ready (rs := [7]) (by kernel_rfl) (by simp) ?_
            refine AllReadyH.cons (o := { dst := none, op := Go.Op.store 25 (Go.Operand.tmp 6) (Go.Operand.tmp 29), type := 0, pos := "more.go:16", after := #[{ on := 5, ground := Go.Ground.data }, { on := 3, ground := Go.Ground.data }, { on := 6, ground := Go.Ground.chain }, { on := 0, ground := Go.Ground.phase }, { on := 1, ground := Go.Ground.phase }, { on := 2, ground := Go.Ground.phase }, { on := 3, ground := Go.Ground.phase }, { on := 4, ground := Go.Ground.phase }, { on := 5, ground := Go.Ground.phase }, { on := 6, ground := Go.Ground.phase }], guard := none }) rfl (fun K hK => ?_) AllReadyH.nil
            rw [if_pos (by rfl)]
            refine wp_store_mid 25 (.tmp 6) (.tmp 29) rfl _ 0 #[.slice C0 (trimL x1).ns.length j0, .slice C1 (trimL x1).rs.length j1, .slice C2 (trimL x1).ws.length j2] rfl rfl TH6.out infoG (one3 _ _ _ _ _ _ _ _ _) ?_
            rw [e9]
            refine hK.out _ _ ?_ (fun hHeld => ?_)
            · exact ss_of (HG5.out.later B9.out) (HH5.out.later B9.out)
            clear hK K
            try simp only [Act.put, List.setIfInBounds_toArray, List.set_cons_zero, List.set_cons_succ]
            refine wpAnyH_done (by kernel_rfl) ?_ _
            refine NoPanic.normal ?_
            clear e8 e9
            go_wp2_with fail
            go_meet
            exact ⟨_, _, rfl, rfl, ⟨_, _, _, GB5.out⟩, ⟨_, _, _, GB6.out⟩, B9.out⟩
          exact AllReadyH.nil
        refine AllReadyH.cons (o := { dst := some 6, op := Go.Op.alloc 25, type := 0, pos := "more.go:16", after := #[], guard := none }) rfl (fun K hK => ?_) ?_
        · go_simp
          obtain ⟨wn, hwn⟩ : ∃ wn, wk.alloc (.cells #[.slice none 0 0, .slice none 0 0, .slice none 0 0] 25) = wn := ⟨_, rfl⟩
          rw [hwn]
          have hbn : Below wk.heap.size wk wn := by rw [← hwn]; exact bel_one _ _
          have D56 : Hid (a5 ≠ wk.heap.size) := Lib.hid (Nat.ne_of_lt (blt X5.out))
          have D6A : Hid (wk.heap.size < la ∨ ha ≤ wk.heap.size) := Lib.hid (.inr KA.out.1)
          have L6 : Hid (w5.heap.size ≤ wk.heap.size) := Lib.hid BEL.out.size
          have BELn := Lib.hid (BEL.out.trans (hbn.mono BEL.out.size))
          have HGn := Lib.hid (HGk.out.later hbn)
          have HHn := Lib.hid (HHk.out.later hbn)
          have X5 := Lib.hid (X5.out.later hbn)
          have KA := Lib.hid (KA.out.later hbn)
          have X6 : Hid (BX wn wk.heap.size) := Lib.hid (by rw [← hwn]; exact heap_alloc_new _ _)
          clear hwn
          obtain ⟨a6, ha6⟩ : ∃ n, wk.heap.size = n := ⟨_, rfl⟩
          rw [ha6] at X6 L6 D56 D6A ⊢
          clear ha6
          refine hK.out _ _ ?_ (fun hHeld => ?_)
          · exact ss_of HGn.out HHn.out
          clear hK K hbn
          try simp only [Act.put, List.setIfInBounds_toArray, List.set_cons_zero, List.set_cons_succ]
          obtain ⟨wk, rfl⟩ : ∃ wk : World, wk = wn := ⟨_, rfl⟩
          obtain ⟨HGk, HHk, BEL⟩ := And.intro HGn (And.intro HHn BELn)
          clear HGn HHn BELn
          refine wpAnyH_ready (rs := [3]) (by kernel_rfl) (by simp) ?_
          refine AllReadyH.cons (o := { dst := some 29, op := Go.Op.call { callee := Go.Callee.value (Go.Operand.func 9), args := #[Go.Operand.tmp 28], argTypes := #[25] }, type := 25, pos := "more.go:16", after := #[{ on := 2, ground := Go.Ground.data }, { on := 1, ground := Go.Ground.chain }], guard := none }) rfl (fun K hK => ?_) ?_
          · go_simp
            refine (HTH.out wk HHk.out.g).mono ?_
            rintro ee wn ⟨C0, j0, C1, j1, C2, j2, rfl, hkn, hbn⟩
            have D5B : Hid (a5 < wk.heap.size ∨ wn.heap.size ≤ a5) := Lib.hid (.inl (blt X5.out))
            have D6B : Hid (a6 < wk.heap.size ∨ wn.heap.size ≤ a6) := Lib.hid (.inl (blt X6.out))
            have BELn := Lib.hid (BEL.out.trans (hbn.mono BEL.out.size))
            have HGn := Lib.hid (HGk.out.later hbn)
            have HHn := Lib.hid (HHk.out.later hbn)
            have X5 := Lib.hid (X5.out.later hbn)
            have X6 := Lib.hid (X6.out.later hbn)
            have KA := Lib.hid (KA.out.later hbn)
            have KB := Lib.hid hkn
            clear hkn
            obtain ⟨lb, hlb⟩ : ∃ n, wk.heap.size = n := ⟨_, rfl⟩
            obtain ⟨hb, hhb⟩ : ∃ n, wn.heap.size = n := ⟨_, rfl⟩
            rw [hlb, hhb] at KB
            rw [hlb, hhb] at D5B
            rw [hlb, hhb] at D6B
            clear hlb hhb
            refine hK.out _ _ ?_ (fun hHeld => ?_)
            · exact ss_of HGn.out HHn.out
            clear hK K hbn
            try simp only [Act.put, List.setIfInBounds_toArray, List.set_cons_zero, List.set_cons_succ]
            obtain ⟨wk, rfl⟩ : ∃ wk : World, wk = wn := ⟨_, rfl⟩
            obtain ⟨HGk, HHk, BEL⟩ := And.intro HGn (And.intro HHn BELn)
            clear HGn HHn BELn
            obtain ⟨w8, w9, e8, e9, th5, th6, b8, gb5, gb6, b9⟩ := two_boxes X5.out X6.out D56.out KA.out KB.out D5A.out D5B.out D6A.out D6B.out BEL.out L5.out L6.out
            have B8 := Lib.hid b8
            have B9 := Lib.hid b9
            have GB5 := Lib.hid gb5
            have GB6 := Lib.hid gb6
            have TH6 := Lib.hid th6
            clear b8 b9 gb5 gb6 th6
            refine wpAnyH_ready (rs := [6]) (by kernel_rfl) (by simp) ?_
            refine AllReadyH.cons (o := { dst := none, op := Go.Op.store 25 (Go.Operand.tmp 5) (Go.Operand.tmp 27), type := 0, pos := "more.go:16", after := #[{ on := 4, ground := Go.Ground.data }, { on := 1, ground := Go.Ground.data }, { on := 3, ground := Go.Ground.chain }, { on := 0, ground := Go.Ground.phase }, { on := 1, ground := Go.Ground.phase }, { on := 2, ground := Go.Ground.textOnly Go.Departure.lateStores }, { on := 3, ground := Go.Ground.textOnly Go.Departure.lateStoresUnsure }, { on := 4, ground := Go.Ground.phase }, { on := 5, ground := Go.Ground.phase }], guard := none }) rfl (fun K hK => ?_) AllReadyH.nil
            rw [if_pos (by rfl)]
            refine wp_store_mid 25 (.tmp 5) (.tmp 27) rfl _ 0 #[.slice A0 (trimL x0).ns.length e0, .slice A1 (trimL x0).rs.length e1, .slice A2 (trimL x0).ws.length e2] rfl rfl th5 infoG (one3 _ _ _ _ _ _ _ _ _) ?_
            rw [e8]
            refine hK.out _ _ ?_ (fun hHeld => ?_)
            · exact ss_of (HG5.out.later B8.out) (HH5.out.later B8.out)
            clear hK K
            try simp only [Act.put, List.setIfInBounds_toArray, List.set_cons_zero, List.set_cons_succ]
            refine wpAnyH_ready (rs := [7]) (by kernel_rfl) (by simp) ?_
            refine AllReadyH.cons (o := { dst := none, op := Go.Op.store 25 (Go.Operand.tmp 6) (Go.Operand.tmp 29), type := 0, pos := "more.go:16", after := #[{ on := 5, ground := Go.Ground.data }, { on := 3, ground := Go.Ground.data }, { on := 6, ground := Go.Ground.chain }, { on := 0, ground := Go.Ground.phase }, { on := 1, ground := Go.Ground.phase }, { on := 2, ground := Go.Ground.phase }, { on := 3, ground := Go.Ground.phase }, { on := 4, ground := Go.Ground.phase }, { on := 5, ground := Go.Ground.phase }, { on := 6, ground := Go.Ground.phase }], guard := none }) rfl (fun K hK => ?_) AllReadyH.nil
            rw [if_pos (by rfl)]
            refine wp_store_mid 25 (.tmp 6) (.tmp 29) rfl _ 0 #[.slice C0 (trimL x1).ns.length j0, .slice C1 (trimL x1).rs.length j1, .slice C2 (trimL x1).ws.length j2] rfl rfl TH6.out infoG (one3 _ _ _ _ _ _ _ _ _) ?_
            rw [e9]
            refine hK.out _ _ ?_ (fun hHeld => ?_)
            · exact ss_of (HG5.out.later B9.out) (HH5.out.later B9.out)
            clear hK K
            try simp only [Act.put, List.setIfInBounds_toArray, List.set_cons_zero, List.set_cons_succ]
            refine wpAnyH_done (by kernel_rfl) ?_ _
            refine NoPanic.normal ?_
            clear e8 e9
            go_wp2_with fail
            go_meet
            exact ⟨_, _, rfl, rfl, ⟨_, _, _, GB5.out⟩, ⟨_, _, _, GB6.out⟩, B9.out⟩
          exact AllReadyH.nil
        exact AllReadyH.nil
      refine AllReadyH.cons (o := { dst := some 6, op := Go.Op.alloc 25, type := 0, pos := "more.go:16", after := #[], guard := none }) rfl (fun K hK => ?_) ?_
      · go_simp
        obtain ⟨wn, hwn⟩ : ∃ wn, wk.alloc (.cells #[.slice none 0 0, .slice none 0 0, .slice none 0 0] 25) = wn := ⟨_, rfl⟩
        rw [hwn]
        have hbn : Below wk.heap.size wk wn := by rw [← hwn]; exact bel_one _ _
        have D6A : Hid (wk.heap.size < la ∨ ha ≤ wk.heap.size) := Lib.hid (.inr KA.out.1)
        have L6 : Hid (w5.heap.size ≤ wk.heap.size) := Lib.hid BEL.out.size
        have BELn := Lib.hid (BEL.out.trans (hbn.mono BEL.out.size))
        have HGn := Lib.hid (HGk.out.later hbn)
        have HHn := Lib.hid (HHk.out.later hbn)
        have KA := Lib.hid (KA.out.later hbn)
        have X6 : Hid (BX wn wk.heap.size) := Lib.hid (by rw [← hwn]; exact heap_alloc_new _ _)
        clear hwn
        obtain ⟨a6, ha6⟩ : ∃ n, wk.heap.size = n := ⟨_, rfl⟩
        rw [ha6] at X6 L6 D6A ⊢
        clear ha6
        refine hK.out _ _ ?_ (fun hHeld => ?_)
        · exact ss_of HGn.out HHn.out
        clear hK K hbn
        try simp only [Act.put, List.setIfInBounds_toArray, List.set_cons_zero, List.set_cons_succ]
        obtain ⟨wk, rfl⟩ : ∃ wk : World, wk = wn := ⟨_, rfl⟩
        obtain ⟨HGk, HHk, BEL⟩ := And.intro HGn (And.intro HHn BELn)
        clear HGn HHn BELn
        refine wpAnyH_ready (rs := [3, 4]) (by kernel_rfl) (by simp) ?_
        refine AllReadyH.cons (o := { dst := some 29, op := Go.Op.call { callee := Go.Callee.value (Go.Operand.func 9), args := #[Go.Operand.tmp 28], argTypes := #[25] }, type := 25, pos := "more.go:16", after := #[{ on := 2, ground := Go.Ground.data }, { on := 1, ground := Go.Ground.chain }], guard := none }) rfl (fun K hK => ?_) ?_
        · go_simp
          refine (HTH.out wk HHk.out.g).mono ?_
          rintro ee wn ⟨C0, j0, C1, j1, C2, j2, rfl, hkn, hbn⟩
          have D6B : Hid (a6 < wk.heap.size ∨ wn.heap.size ≤ a6) := Lib.hid (.inl (blt X6.out))
          have BELn := Lib.hid (BEL.out.trans (hbn.mono BEL.out.size))
          have HGn := Lib.hid (HGk.out.later hbn)
          have HHn := Lib.hid (HHk.out.later hbn)
          have X6 := Lib.hid (X6.out.later hbn)
          have KA := Lib.hid (KA.out.later hbn)
          have KB := Lib.hid hkn
          clear hkn
          obtain ⟨lb, hlb⟩ : ∃ n, wk.heap.size = n := ⟨_, rfl⟩
          obtain ⟨hb, hhb⟩ : ∃ n, wn.heap.size = n := ⟨_, rfl⟩
          rw [hlb, hhb] at KB
          rw [hlb, hhb] at D6B
          clear hlb hhb
          refine hK.out _ _ ?_ (fun hHeld => ?_)
          · exact ss_of HGn.out HHn.out
          clear hK K hbn
          try simp only [Act.put, List.setIfInBounds_toArray, List.set_cons_zero, List.set_cons_succ]
          obtain ⟨wk, rfl⟩ : ∃ wk : World, wk = wn := ⟨_, rfl⟩
          obtain ⟨HGk, HHk, BEL⟩ := And.intro HGn (And.intro HHn BELn)
          clear HGn HHn BELn
          refine wpAnyH_ready (rs := [4]) (by kernel_rfl) (by simp) ?_
          refine AllReadyH.cons (o := { dst := some 5, op := Go.Op.alloc 25, type := 0, pos := "more.go:16", after := #[], guard := none }) rfl (fun K hK => ?_) ?_
          · go_simp
            obtain ⟨wn, hwn⟩ : ∃ wn, wk.alloc (.cells #[.slice none 0 0, .slice none 0 0, .slice none 0 0] 25) = wn := ⟨_, rfl⟩
            rw [hwn]
            have hbn : Below wk.heap.size wk wn := by rw [← hwn]; exact bel_one _ _
            have D56 : Hid (wk.heap.size ≠ a6) := Lib.hid (Ne.symm (Nat.ne_of_lt (blt X6.out)))
            have D5A : Hid (wk.heap.size < la ∨ ha ≤ wk.heap.size) := Lib.hid (.inr KA.out.1)
            have D5B : Hid (wk.heap.size < lb ∨ hb ≤ wk.heap.size) := Lib.hid (.inr KB.out.1)
            have L5 : Hid (w5.heap.size ≤ wk.heap.size) := Lib.hid BEL.out.size
            have BELn := Lib.hid (BEL.out.trans (hbn.mono BEL.out.size))
            have HGn := Lib.hid (HGk.out.later hbn)
            have HHn := Lib.hid (HHk.out.later hbn)
            have X6 := Lib.hid (X6.out.later hbn)
            have KA := Lib.hid (KA.out.later hbn)
            have KB := Lib.hid (KB.out.later hbn)
            have X5 : Hid (BX wn wk.heap.size) := Lib.hid (by rw [← hwn]; exact heap_alloc_new _ _)
            clear hwn
            obtain ⟨a5, ha5⟩ : ∃ n, wk.heap.size = n := ⟨_, rfl⟩
            rw [ha5] at X5 L5 D56 D5A D5B ⊢
            clear ha5
            refine hK.out _ _ ?_ (fun hHeld => ?_)
            · exact ss_of HGn.out HHn.out
            clear hK K hbn
            try simp only [Act.put, List.setIfInBounds_toArray, List.set_cons_zero, List.set_cons_succ]
            obtain ⟨wk, rfl⟩ : ∃ wk : World, wk = wn := ⟨_, rfl⟩
            obtain ⟨HGk, HHk, BEL⟩ := And.intro HGn (And.intro HHn BELn)
            clear HGn HHn BELn
            obtain ⟨w8, w9, e8, e9, th5, th6, b8, gb5, gb6, b9⟩ := two_boxes X5.out X6.out D56.out KA.out KB.out D5A.out D5B.out D6A.out D6B.out BEL.out L5.out L6.out
            have B8 := Lib.hid b8
            have B9 := Lib.hid b9
            have GB5 := Lib.hid gb5
            have GB6 := Lib.hid gb6
            have TH6 := Lib.hid th6
            clear b8 b9 gb5 gb6 th6
            refine wpAnyH_ready (rs := [6]) (by kernel_rfl) (by simp) ?_
            refine AllReadyH.cons (o := { dst := none, op := Go.Op.store 25 (Go.Operand.tmp 5) (Go.Operand.tmp 27), type := 0, pos := "more.go:16", after := #[{ on := 4, ground := Go.Ground.data }, { on := 1, ground := Go.Ground.data }, { on := 3, ground := Go.Ground.chain }, { on := 0, ground := Go.Ground.phase }, { on := 1, ground := Go.Ground.phase }, { on := 2, ground := Go.Ground.textOnly Go.Departure.lateStores }, { on := 3, ground := Go.Ground.textOnly Go.Departure.lateStoresUnsure }, { on := 4, ground := Go.Ground.phase }, { on := 5, ground := Go.Ground.phase }], guard := none }) rfl (fun K hK => ?_) AllReadyH.nil
            rw [if_pos (by rfl)]
            refine wp_store_mid 25 (.tmp 5) (.tmp 27) rfl _ 0 #[.slice A0 (trimL x0).ns.length e0, .slice A1 (trimL x0).rs.length e1, .slice A2 (trimL x0).ws.length e2] rfl rfl th5 infoG (one3 _ _ _ _ _ _ _ _ _) ?_
            rw [e8]
            refine hK.out _ _ ?_ (fun hHeld => ?_)
            · exact ss_of (HG5.out.later B8.out) (HH5.out.later B8.out)
            clear hK K
            try simp only [Act.put, List.setIfInBounds_toArray, List.set_cons_zero, List.set_cons_succ]
            refine wpAnyH_ready (rs := [7]) (by kernel_rfl) (by simp) ?_
            refine AllReadyH.cons (o := { dst := none, op := Go.Op.store 25 (Go.Operand.tmp 6) (Go.Operand.tmp 29), type := 0, pos := "more.go:16", after := #[{ on := 5, ground := Go.Ground.data }, { on := 3, ground := Go.Ground.data }, { on := 6, ground := Go.Ground.chain }, { on := 0, ground := Go.Ground.phase }, { on := 1, ground := Go.Ground.phase }, { on := 2, ground := Go.Ground.phase }, { on := 3, ground := Go.Ground.phase }, { on := 4, ground := Go.Ground.phase }, { on := 5, ground := Go.Ground.phase }, { on := 6, ground := Go.Ground.phase }], guard := none }) rfl (fun K hK => ?_) AllReadyH.nil
            rw [if_pos (by rfl)]
            refine wp_store_mid 25 (.tmp 6) (.tmp 29) rfl _ 0 #[.slice C0 (trimL x1).ns.length j0, .slice C1 (trimL x1).rs.length j1, .slice C2 (trimL x1).ws.length j2] rfl rfl TH6.out infoG (one3 _ _ _ _ _ _ _ _ _) ?_
            rw [e9]
            refine hK.out _ _ ?_ (fun hHeld => ?_)
            · exact ss_of (HG5.out.later B9.out) (HH5.out.later B9.out)
            clear hK K
            try simp only [Act.put, List.setIfInBounds_toArray, List.set_cons_zero, List.set_cons_succ]
            refine wpAnyH_done (by kernel_rfl) ?_ _
            refine NoPanic.normal ?_
            clear e8 e9
            go_wp2_with fail
            go_meet
            exact ⟨_, _, rfl, rfl, ⟨_, _, _, GB5.out⟩, ⟨_, _, _, GB6.out⟩, B9.out⟩
          exact AllReadyH.nil
        refine AllReadyH.cons (o := { dst := some 5, op := Go.Op.alloc 25, type := 0, pos := "more.go:16", after := #[], guard := none }) rfl (fun K hK => ?_) ?_
        · go_simp
          obtain ⟨wn, hwn⟩ : ∃ wn, wk.alloc (.cells #[.slice none 0 0, .slice none 0 0, .slice none 0 0] 25) = wn := ⟨_, rfl⟩
          rw [hwn]
          have hbn : Below wk.heap.size wk wn := by rw [← hwn]; exact bel_one _ _
          have D56 : Hid (wk.heap.size ≠ a6) := Lib.hid (Ne.symm (Nat.ne_of_lt (blt X6.out)))
          have D5A : Hid (wk.heap.size < la ∨ ha ≤ wk.heap.size) := Lib.hid (.inr KA.out.1)
          have L5 : Hid (w5.heap.size ≤ wk.heap.size) := Lib.hid BEL.out.size
          have BELn := Lib.hid (BEL.out.trans (hbn.mono BEL.out.size))
          have HGn := Lib.hid (HGk.out.later hbn)
          have HHn := Lib.hid (HHk.out.later hbn)
          have X6 := Lib.hid (X6.out.later hbn)
          have KA := Lib.hid (KA.out.later hbn)
          have X5 : Hid (BX wn wk.heap.size) := Lib.hid (by rw [← hwn]; exact heap_alloc_new _ _)
          clear hwn
          obtain ⟨a5, ha5⟩ : ∃ n, wk.heap.size = n := ⟨_, rfl⟩
          rw [ha5] at X5 L5 D56 D5A ⊢
          clear ha5
          refine hK.out _ _ ?_ (fun hHeld => ?_)
          · exact ss_of HGn.out HHn.out
          clear hK K hbn
          try simp only [Act.put, List.setIfInBounds_toArray, List.set_cons_zero, List.set_cons_succ]
          obtain ⟨wk, rfl⟩ : ∃ wk : World, wk = wn := ⟨_, rfl⟩
          obtain ⟨HGk, HHk, BEL⟩ := And.intro HGn (And.intro HHn BELn)
          clear HGn HHn BELn
          refine wpAnyH_ready (rs := [3]) (by kernel_rfl) (by simp) ?_
          refine AllReadyH.cons (o := { dst := some 29, op := Go.Op.call { callee := Go.Callee.value (Go.Operand.func 9), args := #[Go.Operand.tmp 28], argTypes := #[25] }, type := 25, pos := "more.go:16", after := #[{ on := 2, ground := Go.Ground.data }, { on := 1, ground := Go.Ground.chain }], guard := none }) rfl (fun K hK => ?_) ?_
          · go_simp
            refine (HTH.out wk HHk.out.g).mono ?_
            rintro ee wn ⟨C0, j0, C1, j1, C2, j2, rfl, hkn, hbn⟩
            have D5B : Hid (a5 < wk.heap.size ∨ wn.heap.size ≤ a5) := Lib.hid (.inl (blt X5.out))
            have D6B : Hid (a6 < wk.heap.size ∨ wn.heap.size ≤ a6) := Lib.hid (.inl (blt X6.out))
            have BELn := Lib.hid (BEL.out.trans (hbn.mono BEL.out.size))
            have HGn := Lib.hid (HGk.out.later hbn)
            have HHn := Lib.hid (HHk.out.later hbn)
            have X5 := Lib.hid (X5.out.later hbn)
            have X6 := Lib.hid (X6.out.later hbn)
            have KA := Lib.hid (KA.out.later hbn)
            have KB := Lib.hid hkn
            clear hkn
            obtain ⟨lb, hlb⟩ : ∃ n, wk.heap.size = n := ⟨_, rfl⟩
            obtain ⟨hb, hhb⟩ : ∃ n, wn.heap.size = n := ⟨_, rfl⟩
            rw [hlb, hhb] at KB
            rw [hlb, hhb] at D5B
            rw [hlb, hhb] at D6B
            clear hlb hhb
            refine hK.out _ _ ?_ (fun hHeld => ?_)
            · exact ss_of HGn.out HHn.out
            clear hK K hbn
            try simp only [Act.put, List.setIfInBounds_toArray, List.set_cons_zero, List.set_cons_succ]
            obtain ⟨wk, rfl⟩ : ∃ wk : World, wk = wn := ⟨_, rfl⟩
            obtain ⟨HGk, HHk, BEL⟩ := And.intro HGn (And.intro HHn BELn)
            clear HGn HHn BELn
            obtain ⟨w8, w9, e8, e9, th5, th6, b8, gb5, gb6, b9⟩ := two_boxes X5.out X6.out D56.out KA.out KB.out D5A.out D5B.out D6A.out D6B.out BEL.out L5.out L6.out
            have B8 := Lib.hid b8
            have B9 := Lib.hid b9
            have GB5 := Lib.hid gb5
            have GB6 := Lib.hid gb6
            have TH6 := Lib.hid th6
            clear b8 b9 gb5 gb6 th6
            refine wpAnyH_ready (rs := [6]) (by kernel_rfl) (by simp) ?_
            refine AllReadyH.cons (o := { dst := none, op := Go.Op.store 25 (Go.Operand.tmp 5) (Go.Operand.tmp 27), type := 0, pos := "more.go:16", after := #[{ on := 4, ground := Go.Ground.data }, { on := 1, ground := Go.Ground.data }, { on := 3, ground := Go.Ground.chain }, { on := 0, ground := Go.Ground.phase }, { on := 1, ground := Go.Ground.phase }, { on := 2, ground := Go.Ground.textOnly Go.Departure.lateStores }, { on := 3, ground := Go.Ground.textOnly Go.Departure.lateStoresUnsure }, { on := 4, ground := Go.Ground.phase }, { on := 5, ground := Go.Ground.phase }], guard := none }) rfl (fun K hK => ?_) AllReadyH.nil
            rw [if_pos (by rfl)]
            refine wp_store_mid 25 (.tmp 5) (.tmp 27) rfl _ 0 #[.slice A0 (trimL x0).ns.length e0, .slice A1 (trimL x0).rs.length e1, .slice A2 (trimL x0).ws.length e2] rfl rfl th5 infoG (one3 _ _ _ _ _ _ _ _ _) ?_
            rw [e8]
            refine hK.out _ _ ?_ (fun hHeld => ?_)
            · exact ss_of (HG5.out.later B8.out) (HH5.out.later B8.out)
            clear hK K
            try simp only [Act.put, List.setIfInBounds_toArray, List.set_cons_zero, List.set_cons_succ]
            refine wpAnyH_ready (rs := [7]) (by kernel_rfl) (by simp) ?_
            refine AllReadyH.cons (o := { dst := none, op := Go.Op.store 25 (Go.Operand.tmp 6) (Go.Operand.tmp 29), type := 0, pos := "more.go:16", after := #[{ on := 5, ground := Go.Ground.data }, { on := 3, ground := Go.Ground.data }, { on := 6, ground := Go.Ground.chain }, { on := 0, ground := Go.Ground.phase }, { on := 1, ground := Go.Ground.phase }, { on := 2, ground := Go.Ground.phase }, { on := 3, ground := Go.Ground.phase }, { on := 4, ground := Go.Ground.phase }, { on := 5, ground := Go.Ground.phase }, { on := 6, ground := Go.Ground.phase }], guard := none }) rfl (fun K hK => ?_) AllReadyH.nil
            rw [if_pos (by rfl)]
            refine wp_store_mid 25 (.tmp 6) (.tmp 29) rfl _ 0 #[.slice C0 (trimL x1).ns.length j0, .slice C1 (trimL x1).rs.length j1, .slice C2 (trimL x1).ws.length j2] rfl rfl TH6.out infoG (one3 _ _ _ _ _ _ _ _ _) ?_
            rw [e9]
            refine hK.out _ _ ?_ (fun hHeld => ?_)
            · exact ss_of (HG5.out.later B9.out) (HH5.out.later B9.out)
            clear hK K
            try simp only [Act.put, List.setIfInBounds_toArray, List.set_cons_zero, List.set_cons_succ]
            refine wpAnyH_done (by kernel_rfl) ?_ _
            refine NoPanic.normal ?_
            clear e8 e9
            go_wp2_with fail
            go_meet
            exact ⟨_, _, rfl, rfl, ⟨_, _, _, GB5.out⟩, ⟨_, _, _, GB6.out⟩, B9.out⟩
          exact AllReadyH.nil
        exact AllReadyH.nil
      exact AllReadyH.nil
    refine AllReadyH.cons (o := { dst := some 5, op := Go.Op.alloc 25, type := 0, pos := "more.go:16", after := #[], guard := none }) rfl (fun K hK => ?_) ?_
    · go_simp
      obtain ⟨wn, hwn⟩ : ∃ wn, wk.alloc (.cells #[.slice none 0 0, .slice none 0 0, .slice none 0 0] 25) = wn := ⟨_, rfl⟩
      rw [hwn]
      have hbn : Below wk.heap.size wk wn := by rw [← hwn]; exact bel_one _ _
      have L5 : Hid (w5.heap.size ≤ wk.heap.size) := Lib.hid BEL.out.size
      have BELn := Lib.hid (BEL.out.trans (hbn.mono BEL.out.size))
      have HGn := Lib.hid (HGk.out.later hbn)
      have HHn := Lib.hid (HHk.out.later hbn)
      have X5 : Hid (BX wn wk.heap.size) := Lib.hid (by rw [← hwn]; exact heap_alloc_new _ _)
      clear hwn
      obtain ⟨a5, ha5⟩ : ∃ n, wk.heap.size = n := ⟨_, rfl⟩
      rw [ha5] at X5 L5 ⊢
      clear ha5
      refine hK.out _ _ ?_ (fun hHeld => ?_)
      · exact ss_of HGn.out HHn.out
      clear hK K hbn
      try simp only [Act.put, List.setIfInBounds_toArray, List.set_cons_zero, List.set_cons_succ]
      obtain ⟨wk, rfl⟩ : ∃ wk : World, wk = wn := ⟨_, rfl⟩
      obtain ⟨HGk, HHk, BEL⟩ := And.intro HGn (And.intro HHn BELn)
      clear HGn HHn BELn
      refine wpAnyH_ready (rs := [1, 5]) (by kernel_rfl) (by simp) ?_
      refine AllReadyH.cons (o := { dst := some 27, op := Go.Op.call { callee := Go.Callee.value (Go.Operand.func 9), args := #[Go.Operand.tmp 26], argTypes := #[25] }, type := 25, pos := "more.go:16", after := #[{ on := 0, ground := Go.Ground.data }], guard := none }) rfl (fun K hK => ?_) ?_
      · go_simp
        refine (HTG.out wk HGk.out.g).mono ?_
        rintro ee wn ⟨A0, e0, A1, e1, A2, e2, rfl, hkn, hbn⟩
        have D5A : Hid (a5 < wk.heap.size ∨ wn.heap.size ≤ a5) := Lib.hid (.inl (blt X5.out))
        have BELn := Lib.hid (BEL.out.trans (hbn.mono BEL.out.size))
        have HGn := Lib.hid (HGk.out.later hbn)
        have HHn := Lib.hid (HHk.out.later hbn)
        have X5 := Lib.hid (X5.out.later hbn)
        have KA := Lib.hid hkn
        clear hkn
        obtain ⟨la, hla⟩ : ∃ n, wk.heap.size = n := ⟨_, rfl⟩
        obtain ⟨ha, hha⟩ : ∃ n, wn.heap.size = n := ⟨_, rfl⟩
        rw [hla, hha] at KA
        rw [hla, hha] at D5A
        clear hla hha
        refine hK.out _ _ ?_ (fun hHeld => ?_)
        · exact ss_of HGn.out HHn.out
        clear hK K hbn
        try simp only [Act.put, List.setIfInBounds_toArray, List.set_cons_zero, List.set_cons_succ]
        obtain ⟨wk, rfl⟩ : ∃ wk : World, wk = wn := ⟨_, rfl⟩
        obtain ⟨HGk, HHk, BEL⟩ := And.intro HGn (And.intro HHn BELn)
        clear HGn HHn BELn
        refine wpAnyH_ready (rs := [3, 5]) (by kernel_rfl) (by simp) ?_
        refine AllReadyH.cons (o := { dst := some 29, op := Go.Op.call { callee := Go.Callee.value (Go.Operand.func 9), args := #[Go.Operand.tmp 28], argTypes := #[25] }, type := 25, pos := "more.go:16", after := #[{ on := 2, ground := Go.Ground.data }, { on := 1, ground := Go.Ground.chain }], guard := none }) rfl (fun K hK => ?_) ?_
        · go_simp
          refine (HTH.out wk HHk.out.g).mono ?_
          rintro ee wn ⟨C0, j0, C1, j1, C2, j2, rfl, hkn, hbn⟩
          have D5B : Hid (a5 < wk.heap.size ∨ wn.heap.size ≤ a5) := Lib.hid (.inl (blt X5.out))
          have BELn := Lib.hid (BEL.out.trans (hbn.mono BEL.out.size))
          have HGn := Lib.hid (HGk.out.later hbn)
          have HHn := Lib.hid (HHk.out.later hbn)
          have X5 := Lib.hid (X5.out.later hbn)
          have KA := Lib.hid (KA.out.later hbn)
          have KB := Lib.hid hkn
          clear hkn
          obtain ⟨lb, hlb⟩ : ∃ n, wk.heap.size = n := ⟨_, rfl⟩
          obtain ⟨hb, hhb⟩ : ∃ n, wn.heap.size = n := ⟨_, rfl⟩
          rw [hlb, hhb] at KB
          rw [hlb, hhb] at D5B
          clear hlb hhb
          refine hK.out _ _ ?_ (fun hHeld => ?_)
          · exact ss_of HGn.out HHn.out
          clear hK K hbn
          try simp only [Act.put, List.setIfInBounds_toArray, List.set_cons_zero, List.set_cons_succ]
          obtain ⟨wk, rfl⟩ : ∃ wk : World, wk = wn := ⟨_, rfl⟩
          obtain ⟨HGk, HHk, BEL⟩ := And.intro HGn (And.intro HHn BELn)
          clear HGn HHn BELn
          refine wpAnyH_ready (rs := [5]) (by kernel_rfl) (by simp) ?_
          refine AllReadyH.cons (o := { dst := some 6, op := Go.Op.alloc 25, type := 0, pos := "more.go:16", after := #[], guard := none }) rfl (fun K hK => ?_) ?_
          · go_simp
            obtain ⟨wn, hwn⟩ : ∃ wn, wk.alloc (.cells #[.slice none 0 0, .slice none 0 0, .slice none 0 0] 25) = wn := ⟨_, rfl⟩
            rw [hwn]
            have hbn : Below wk.heap.size wk wn := by rw [← hwn]; exact bel_one _ _
            have D56 : Hid (a5 ≠ wk.heap.size) := Lib.hid (Nat.ne_of_lt (blt X5.out))
            have D6A : Hid (wk.heap.size < la ∨ ha ≤ wk.heap.size) := Lib.hid (.inr KA.out.1)
            have D6B : Hid (wk.heap.size < lb ∨ hb ≤ wk.heap.size) := Lib.hid (.inr KB.out.1)
            have L6 : Hid (w5.heap.size ≤ wk.heap.size) := Lib.hid BEL.out.size
            have BELn := Lib.hid (BEL.out.trans (hbn.mono BEL.out.size))
            have HGn := Lib.hid (HGk.out.later hbn)
            have HHn := Lib.hid (HHk.out.later hbn)
            have X5 := Lib.hid (X5.out.later hbn)
            have KA := Lib.hid (KA.out.later hbn)
            have KB := Lib.hid (KB.out.later hbn)
            have X6 : Hid (BX wn wk.heap.size) := Lib.hid (by rw [← hwn]; exact heap_alloc_new _ _)
            clear hwn
            obtain ⟨a6, ha6⟩ : ∃ n, wk.heap.size = n := ⟨_, rfl⟩
            rw [ha6] at X6 L6 D56 D6A D6B ⊢
            clear ha6
            refine hK.out _ _ ?_ (fun hHeld => ?_)
            · exact ss_of HGn.out HHn.out
            clear hK K hbn
            try simp only [Act.put, List.setIfInBounds_toArray, List.set_cons_zero, List.set_cons_succ]
            obtain ⟨wk, rfl⟩ : ∃ wk : World, wk = wn := ⟨_, rfl⟩
            obtain ⟨HGk, HHk, BEL⟩ := And.intro HGn (And.intro HHn BELn)
            clear HGn HHn BELn
            obtain ⟨w8, w9, e8, e9, th5, th6, b8, gb5, gb6, b9⟩ := two_boxes X5.out X6.out D56.out KA.out KB.out D5A.out D5B.out D6A.out D6B.out BEL.out L5.out L6.out
            have B8 := Lib.hid b8
            have B9 := Lib.hid b9
            have GB5 := Lib.hid gb5
            have GB6 := Lib.hid gb6
            have TH6 := Lib.hid th6
            clear b8 b9 gb5 gb6 th6
            refine wpAnyH_ready (rs := [6]) (by kernel_rfl) (by simp) ?_
            refine AllReadyH.cons (o := { dst := none, op := Go.Op.store 25 (Go.Operand.tmp 5) (Go.Operand.tmp 27), type := 0, pos := "more.go:16", after := #[{ on := 4, ground := Go.Ground.data }, { on := 1, ground := Go.Ground.data }, { on := 3, ground := Go.Ground.chain }, { on := 0, ground := Go.Ground.phase }, { on := 1, ground := Go.Ground.phase }, { on := 2, ground := Go.Ground.textOnly Go.Departure.lateStores }, { on := 3, ground := Go.Ground.textOnly Go.Departure.lateStoresUnsure }, { on := 4, ground := Go.Ground.phase }, { on := 5, ground := Go.Ground.phase }], guard := none }) rfl (fun K hK => ?_) AllReadyH.nil
            rw [if_pos (by rfl)]
            refine wp_store_mid 25 (.tmp 5) (.tmp 27) rfl _ 0 #[.slice A0 (trimL x0).ns.length e0, .slice A1 (trimL x0).rs.length e1, .slice A2 (trimL x0).ws.length e2] rfl rfl th5 infoG (one3 _ _ _ _ _ _ _ _ _) ?_
            rw [e8]
            refine hK.out _ _ ?_ (fun hHeld => ?_)
            · exact ss_of (HG5.out.later B8.out) (HH5.out.later B8.out)
            clear hK K
            try simp only [Act.put, List.setIfInBounds_toArray, List.set_cons_zero, List.set_cons_succ]
            refine wpAnyH_ready (rs := [7]) (by kernel_rfl) (by simp) ?_
            refine AllReadyH.cons (o := { dst := none, op := Go.Op.store 25 (Go.Operand.tmp 6) (Go.Operand.tmp 29), type := 0, pos := "more.go:16", after := #[{ on := 5, ground := Go.Ground.data }, { on := 3, ground := Go.Ground.data }, { on := 6, ground := Go.Ground.chain }, { on := 0, ground := Go.Ground.phase }, { on := 1, ground := Go.Ground.phase }, { on := 2, ground := Go.Ground.phase }, { on := 3, ground := Go.Ground.phase }, { on := 4, ground := Go.Ground.phase }, { on := 5, ground := Go.Ground.phase }, { on := 6, ground := Go.Ground.phase }], guard := none }) rfl (fun K hK => ?_) AllReadyH.nil
            rw [if_pos (by rfl)]
            refine wp_store_mid 25 (.tmp 6) (.tmp 29) rfl _ 0 #[.slice C0 (trimL x1).ns.length j0, .slice C1 (trimL x1).rs.length j1, .slice C2 (trimL x1).ws.length j2] rfl rfl TH6.out infoG (one3 _ _ _ _ _ _ _ _ _) ?_
            rw [e9]
            refine hK.out _ _ ?_ (fun hHeld => ?_)
            · exact ss_of (HG5.out.later B9.out) (HH5.out.later B9.out)
            clear hK K
            try simp only [Act.put, List.setIfInBounds_toArray, List.set_cons_zero, List.set_cons_succ]
            refine wpAnyH_done (by kernel_rfl) ?_ _
            refine NoPanic.normal ?_
            clear e8 e9
            go_wp2_with fail
            go_meet
            exact ⟨_, _, rfl, rfl, ⟨_, _, _, GB5.out⟩, ⟨_, _, _, GB6.out⟩, B9.out⟩
          exact AllReadyH.nil
        refine AllReadyH.cons (o := { dst := some 6, op := Go.Op.alloc 25, type := 0, pos := "more.go:16", after := #[], guard := none }) rfl (fun K hK => ?_) ?_
        · go_simp
          obtain ⟨wn, hwn⟩ : ∃ wn, wk.alloc (.cells #[.slice none 0 0, .slice none 0 0, .slice none 0 0] 25) = wn := ⟨_, rfl⟩
          rw [hwn]
          have hbn : Below wk.heap.size wk wn := by rw [← hwn]; exact bel_one _ _
          have D56 : Hid (a5 ≠ wk.heap.size) := Lib.hid (Nat.ne_of_lt (blt X5.out))
          have D6A : Hid (wk.heap.size < la ∨ ha ≤ wk.heap.size) := Lib.hid (.inr KA.out.1)
          have L6 : Hid (w5.heap.size ≤ wk.heap.size) := Lib.hid BEL.out.size
          have BELn := Lib.hid (BEL.out.trans (hbn.mono BEL.out.size))
          have HGn := Lib.hid (HGk.out.later hbn)
          have HHn := Lib.hid (HHk.out.later hbn)
          have X5 := Lib.hid (X5.out.later hbn)
          have KA := Lib.hid (KA.out.later hbn)
          have X6 : Hid (BX wn wk.heap.size) := Lib.hid (by rw [← hwn]; exact heap_alloc_new _ _)
          clear hwn
          obtain ⟨a6, ha6⟩ : ∃ n, wk.heap.size = n := ⟨_, rfl⟩
          rw [ha6] at X6 L6 D56 D6A ⊢
          clear ha6
          refine hK.out _ _ ?_ (fun hHeld => ?_)
          · exact ss_of HGn.out HHn.out
          clear hK K hbn
          try simp only [Act.put, List.setIfInBounds_toArray, List.set_cons_zero, List.set_cons_succ]
          obtain ⟨wk, rfl⟩ : ∃ wk : World, wk = wn := ⟨_, rfl⟩
          obtain ⟨HGk, HHk, BEL⟩ := And.intro HGn (And.intro HHn BELn)
          clear HGn HHn BELn
          refine wpAnyH_ready (rs := [3]) (by kernel_rfl) (by simp) ?_
          refine AllReadyH.cons (o := { dst := some 29, op := Go.Op.call { callee := Go.Callee.value (Go.Operand.func 9), args := #[Go.Operand.tmp 28], argTypes := #[25] }, type := 25, pos := "more.go:16", after := #[{ on := 2, ground := Go.Ground.data }, { on := 1, ground := Go.Ground.chain }], guard := none }) rfl (fun K hK => ?_) ?_
          · go_simp
            refine (HTH.out wk HHk.out.g).mono ?_
            rintro ee wn ⟨C0, j0, C1, j1, C2, j2, rfl, hkn, hbn⟩
            have D5B : Hid (a5 < wk.heap.size ∨ wn.heap.size ≤ a5) := Lib.hid (.inl (blt X5.out))
            have D6B : Hid (a6 < wk.heap.size ∨ wn.heap.size ≤ a6) := Lib.hid (.inl (blt X6.out))
            have BELn := Lib.hid (BEL.out.trans (hbn.mono BEL.out.size))
            have HGn := Lib.hid (HGk.out.later hbn)
            have HHn := Lib.hid (HHk.out.later hbn)
            have X5 := Lib.hid (X5.out.later hbn)
            have X6 := Lib.hid (X6.out.later hbn)
            have KA := Lib.hid (KA.out.later hbn)
            have KB := Lib.hid hkn
            clear hkn
            obtain ⟨lb, hlb⟩ : ∃ n, wk.heap.size = n := ⟨_, rfl⟩
            obtain ⟨hb, hhb⟩ : ∃ n, wn.heap.size = n := ⟨_, rfl⟩
            rw [hlb, hhb] at KB
            rw [hlb, hhb] at D5B
            rw [hlb, hhb] at D6B
            clear hlb hhb
            refine hK.out _ _ ?_ (fun hHeld => ?_)
            · exact ss_of HGn.out HHn.out
            clear hK K hbn
            try simp only [Act.put, List.setIfInBounds_toArray, List.set_cons_zero, List.set_cons_succ]
            obtain ⟨wk, rfl⟩ : ∃ wk : World, wk = wn := ⟨_, rfl⟩
            obtain ⟨HGk, HHk, BEL⟩ := And.intro HGn (And.intro HHn BELn)
            clear HGn HHn BELn
            obtain ⟨w8, w9, e8, e9, th5, th6, b8, gb5, gb6, b9⟩ := two_boxes X5.out X6.out D56.out KA.out KB.out D5A.out D5B.out D6A.out D6B.out BEL.out L5.out L6.out
            have B8 := Lib.hid b8
            have B9 := Lib.hid b9
            have GB5 := Lib.hid gb5
            have GB6 := Lib.hid gb6
            have TH6 := Lib.hid th6
            clear b8 b9 gb5 gb6 th6
            refine wpAnyH_ready (rs := [6]) (by kernel_rfl) (by simp) ?_
            refine AllReadyH.cons (o := { dst := none, op := Go.Op.store 25 (Go.Operand.tmp 5) (Go.Operand.tmp 27), type := 0, pos := "more.go:16", after := #[{ on := 4, ground := Go.Ground.data }, { on := 1, ground := Go.Ground.data }, { on := 3, ground := Go.Ground.chain }, { on := 0, ground := Go.Ground.phase }, { on := 1, ground := Go.Ground.phase }, { on := 2, ground := Go.Ground.textOnly Go.Departure.lateStores }, { on := 3, ground := Go.Ground.textOnly Go.Departure.lateStoresUnsure }, { on := 4, ground := Go.Ground.phase }, { on := 5, ground := Go.Ground.phase }], guard := none }) rfl (fun K hK => ?_) AllReadyH.nil
            rw [if_pos (by rfl)]
            refine wp_store_mid 25 (.tmp 5) (.tmp 27) rfl _ 0 #[.slice A0 (trimL x0).ns.length e0, .slice A1 (trimL x0).rs.length e1, .slice A2 (trimL x0).ws.length e2] rfl rfl th5 infoG (one3 _ _ _ _ _ _ _ _ _) ?_
            rw [e8]
            refine hK.out _ _ ?_ (fun hHeld => ?_)
            · exact ss_of (HG5.out.later B8.out) (HH5.out.later B8.out)
            clear hK K
            try simp only [Act.put, List.setIfInBounds_toArray, List.set_cons_zero, List.set_cons_succ]
            refine wpAnyH_ready (rs := [7]) (by kernel_rfl) (by simp) ?_
            refine AllReadyH.cons (o := { dst := none, op := Go.Op.store 25 (Go.Operand.tmp 6) (Go.Operand.tmp 29), type := 0, pos := "more.go:16", after := #[{ on := 5, ground := Go.Ground.data }, { on := 3, ground := Go.Ground.data }, { on := 6, ground := Go.Ground.chain }, { on := 0, ground := Go.Ground.phase }, { on := 1, ground := Go.Ground.phase }, { on := 2, ground := Go.Ground.phase }, { on := 3, ground := Go.Ground.phase }, { on := 4, ground := Go.Ground.phase }, { on := 5, ground := Go.Ground.phase }, { on := 6, ground := Go.Ground.phase }], guard := none }) rfl (fun K hK => ?_) AllReadyH.nil
            rw [if_pos (by rfl)]
            refine wp_store_mid 25 (.tmp 6) (.tmp 29) rfl _ 0 #[.slice C0 (trimL x1).ns.length j0, .slice C1 (trimL x1).rs.length j1, .slice C2 (trimL x1).ws.length j2] rfl rfl TH6.out infoG (one3 _ _ _ _ _ _ _ _ _) ?_
            rw [e9]
            refine hK.out _ _ ?_ (fun hHeld => ?_)
            · exact ss_of (HG5.out.later B9.out) (HH5.out.later B9.out)
            clear hK K
            try simp only [Act.put, List.setIfInBounds_toArray, List.set_cons_zero, List.set_cons_succ]
            refine wpAnyH_done (by kernel_rfl) ?_ _
            refine NoPanic.normal ?_
            clear e8 e9
            go_wp2_with fail
            go_meet
            exact ⟨_, _, rfl, rfl, ⟨_, _, _, GB5.out⟩, ⟨_, _, _, GB6.out⟩, B9.out⟩
          exact AllReadyH.nil
        exact AllReadyH.nil
      refine AllReadyH.cons (o := { dst := some 6, op := Go.Op.alloc 25, type := 0, pos := "more.go:16", after := #[], guard := none }) rfl (fun K hK => ?_) ?_
      · go_simp
        obtain ⟨wn, hwn⟩ : ∃ wn, wk.alloc (.cells #[.slice none 0 0, .slice none 0 0, .slice none 0 0] 25) = wn := ⟨_, rfl⟩
        rw [hwn]
        have hbn : Below wk.heap.size wk wn := by rw [← hwn]; exact bel_one _ _
        have D56 : Hid (a5 ≠ wk.heap.size) := Lib.hid (Nat.ne_of_lt (blt X5.out))
        have L6 : Hid (w5.heap.size ≤ wk.heap.size) := Lib.hid BEL.out.size
        have BELn := Lib.hid (BEL.out.trans (hbn.mono BEL.out.size))
        have HGn := Lib.hid (HGk.out.later hbn)
        have HHn := Lib.hid (HHk.out.later hbn)
        have X5 := Lib.hid (X5.out.later hbn)
        have X6 : Hid (BX wn wk.heap.size) := Lib.hid (by rw [← hwn]; exact heap_alloc_new _ _)
        clear hwn
        obtain ⟨a6, ha6⟩ : ∃ n, wk.heap.size = n := ⟨_, rfl⟩
        rw [ha6] at X6 L6 D56 ⊢
        clear ha6
        refine hK.out _ _ ?_ (fun hHeld => ?_)
        · exact ss_of HGn.out HHn.out
        clear hK K hbn
        try simp only [Act.put, List.setIfInBounds_toArray, List.set_cons_zero, List.set_cons_succ]
        obtain ⟨wk, rfl⟩ : ∃ wk : World, wk = wn := ⟨_, rfl⟩
        obtain ⟨HGk, HHk, BEL⟩ := And.intro HGn (And.intro HHn BELn)
        clear HGn HHn BELn
        refine wpAnyH_ready (rs := [1]) (by kernel_rfl) (by simp) ?_
        refine AllReadyH.cons (o := { dst := some 27, op := Go.Op.call { callee := Go.Callee.value (Go.Operand.func 9), args := #[Go.Operand.tmp 26], argTypes := #[25] }, type := 25, pos := "more.go:16", after := #[{ on := 0, ground := Go.Ground.data }], guard := none }) rfl (fun K hK => ?_) ?_
        · go_simp
          refine (HTG.out wk HGk.out.g).mono ?_
          rintro ee wn ⟨A0, e0, A1, e1, A2, e2, rfl, hkn, hbn⟩
          have D5A : Hid (a5 < wk.heap.size ∨ wn.heap.size ≤ a5) := Lib.hid (.inl (blt X5.out))
          have D6A : Hid (a6 < wk.heap.size ∨ wn.heap.size ≤ a6) := Lib.hid (.inl (blt X6.out))
          have BELn := Lib.hid (BEL.out.trans (hbn.mono BEL.out.size))
          have HGn := Lib.hid (HGk.out.later hbn)
          have HHn := Lib.hid (HHk.out.later hbn)
          have X5 := Lib.hid (X5.out.later hbn)
          have X6 := Lib.hid (X6.out.later hbn)
          have KA := Lib.hid hkn
          clear hkn
          obtain ⟨la, hla⟩ : ∃ n, wk.heap.size = n := ⟨_, rfl⟩
          obtain ⟨ha, hha⟩ : ∃ n, wn.heap.size = n := ⟨_, rfl⟩
          rw [hla, hha] at KA
          rw [hla, hha] at D5A
          rw [hla, hha] at D6A
          clear hla hha
          refine hK.out _ _ ?_ (fun hHeld => ?_)
          · exact ss_of HGn.out HHn.out
          clear hK K hbn
          try simp only [Act.put, List.setIfInBounds_toArray, List.set_cons_zero, List.set_cons_succ]
          obtain ⟨wk, rfl⟩ : ∃ wk : World, wk = wn := ⟨_, rfl⟩
          obtain ⟨HGk, HHk, BEL⟩ := And.intro HGn (And.intro HHn BELn)
          clear HGn HHn BELn
          refine wpAnyH_ready (rs := [3]) (by kernel_rfl) (by simp) ?_
          refine AllReadyH.cons (o := { dst := some 29, op := Go.Op.call { callee := Go.Callee.value (Go.Operand.func 9), args := #[Go.Operand.tmp 28], argTypes := #[25] }, type := 25, pos := "more.go:16", after := #[{ on := 2, ground := Go.Ground.data }, { on := 1, ground := Go.Ground.chain }], guard := none }) rfl (fun K hK => ?_) ?_
          · go_simp
            refine (HTH.out wk HHk.out.g).mono ?_
            rintro ee wn ⟨C0, j0, C1, j1, C2, j2, rfl, hkn, hbn⟩
            have D5B : Hid (a5 < wk.heap.size ∨ wn.heap.size ≤ a5) := Lib.hid (.inl (blt X5.out))
            have D6B : Hid (a6 < wk.heap.size ∨ wn.heap.size ≤ a6) := Lib.hid (.inl (blt X6.out))
            have BELn := Lib.hid (BEL.out.trans (hbn.mono BEL.out.size))
            have HGn := Lib.hid (HGk.out.later hbn)
            have HHn := Lib.hid (HHk.out.later hbn)
            have X5 := Lib.hid (X5.out.later hbn)
            have X6 := Lib.hid (X6.out.later hbn)
            have KA := Lib.hid (KA.out.later hbn)
            have KB := Lib.hid hkn
            clear hkn
            obtain ⟨lb, hlb⟩ : ∃ n, wk.heap.size = n := ⟨_, rfl⟩
            obtain ⟨hb, hhb⟩ : ∃ n, wn.heap.size = n := ⟨_, rfl⟩
            rw [hlb, hhb] at KB
            rw [hlb, hhb] at D5B
            rw [hlb, hhb] at D6B
            clear hlb hhb
            refine hK.out _ _ ?_ (fun hHeld => ?_)
            · exact ss_of HGn.out HHn.out
            clear hK K hbn
            try simp only [Act.put, List.setIfInBounds_toArray, List.set_cons_zero, List.set_cons_succ]
            obtain ⟨wk, rfl⟩ : ∃ wk : World, wk = wn := ⟨_, rfl⟩
            obtain ⟨HGk, HHk, BEL⟩ := And.intro HGn (And.intro HHn BELn)
            clear HGn HHn BELn
            obtain ⟨w8, w9, e8, e9, th5, th6, b8, gb5, gb6, b9⟩ := two_boxes X5.out X6.out D56.out KA.out KB.out D5A.out D5B.out D6A.out D6B.out BEL.out L5.out L6.out
            have B8 := Lib.hid b8
            have B9 := Lib.hid b9
            have GB5 := Lib.hid gb5
            have GB6 := Lib.hid gb6
            have TH6 := Lib.hid th6
            clear b8 b9 gb5 gb6 th6
            refine wpAnyH_ready (rs := [6]) (by kernel_rfl) (by simp) ?_
            refine AllReadyH.cons (o := { dst := none, op := Go.Op.store 25 (Go.Operand.tmp 5) (Go.Operand.tmp 27), type := 0, pos := "more.go:16", after := #[{ on := 4, ground := Go.Ground.data }, { on := 1, ground := Go.Ground.data }, { on := 3, ground := Go.Ground.chain }, { on := 0, ground := Go.Ground.phase }, { on := 1, ground := Go.Ground.phase }, { on := 2, ground := Go.Ground.textOnly Go.Departure.lateStores }, { on := 3, ground := Go.Ground.textOnly Go.Departure.lateStoresUnsure }, { on := 4, ground := Go.Ground.phase }, { on := 5, ground := Go.Ground.phase }], guard := none }) rfl (fun K hK => ?_) AllReadyH.nil
            rw [if_pos (by rfl)]
            refine wp_store_mid 25 (.tmp 5) (.tmp 27) rfl _ 0 #[.slice A0 (trimL x0).ns.length e0, .slice A1 (trimL x0).rs.length e1, .slice A2 (trimL x0).ws.length e2] rfl rfl th5 infoG (one3 _ _ _ _ _ _ _ _ _) ?_
            rw [e8]
            refine hK.out _ _ ?_ (fun hHeld => ?_)
            · exact ss_of (HG5.out.later B8.out) (HH5.out.later B8.out)
            clear hK K
            try simp only [Act.put, List.setIfInBounds_toArray, List.set_cons_zero, List.set_cons_succ]
            refine wpAnyH_ready (rs := [7]) (by kernel_rfl) (by simp) ?_
            refine AllReadyH.cons (o := { dst := none, op := Go.Op.store 25 (Go.Operand.tmp 6) (Go.Operand.tmp 29), type := 0, pos := "more.go:16", after := #[{ on := 5, ground := Go.Ground.data }, { on := 3, ground := Go.Ground.data }, { on := 6, ground := Go.Ground.chain }, { on := 0, ground := Go.Ground.phase }, { on := 1, ground := Go.Ground.phase }, { on := 2, ground := Go.Ground.phase }, { on := 3, ground := Go.Ground.phase }, { on := 4, ground := Go.Ground.phase }, { on := 5, ground := Go.Ground.phase }, { on := 6, ground := Go.Ground.phase }], guard := none }) rfl (fun K hK => ?_) AllReadyH.nil
            rw [if_pos (by rfl)]
            refine wp_store_mid 25 (.tmp 6) (.tmp 29) rfl _ 0 #[.slice C0 (trimL x1).ns.length j0, .slice C1 (trimL x1).rs.length j1, .slice C2 (trimL x1).ws.length j2] rfl rfl TH6.out infoG (one3 _ _ _ _ _ _ _ _ _) ?_
            rw [e9]
            refine hK.out _ _ ?_ (fun hHeld => ?_)
            · exact ss_of (HG5.out.later B9.out) (HH5.out.later B9.out)
            clear hK K
            try simp only [Act.put, List.setIfInBounds_toArray, List.set_cons_zero, List.set_cons_succ]
            refine wpAnyH_done (by kernel_rfl) ?_ _
            refine NoPanic.normal ?_
            clear e8 e9
            go_wp2_with fail
            go_meet
            exact ⟨_, _, rfl, rfl, ⟨_, _, _, GB5.out⟩, ⟨_, _, _, GB6.out⟩, B9.out⟩
          exact AllReadyH.nil
        exact AllReadyH.nil
      exact AllReadyH.nil
    refine AllReadyH.cons (o := { dst := some 6, op := Go.Op.alloc 25, type := 0, pos := "more.go:16", after := #[], guard := none }) rfl (fun K hK => ?_) ?_
    · go_simp
      obtain ⟨wn, hwn⟩ : ∃ wn, wk.alloc (.cells #[.slice none 0 0, .slice none 0 0, .slice none 0 0] 25) = wn := ⟨_, rfl⟩
      rw [hwn]
      have hbn : Below wk.heap.size wk wn := by rw [← hwn]; exact bel_one _ _
      have L6 : Hid (w5.heap.size ≤ wk.heap.size) := Lib.hid BEL.out.size
      have BELn := Lib.hid (BEL.out.trans (hbn.mono BEL.out.size))
      have HGn := Lib.hid (HGk.out.later hbn)
      have HHn := Lib.hid (HHk.out.later hbn)
      have X6 : Hid (BX wn wk.heap.size) := Lib.hid (by rw [← hwn]; exact heap_alloc_new _ _)
      clear hwn
      obtain ⟨a6, ha6⟩ : ∃ n, wk.heap.size = n := ⟨_, rfl⟩
      rw [ha6] at X6 L6 ⊢
      clear ha6
      refine hK.out _ _ ?_ (fun hHeld => ?_)
      · exact ss_of HGn.out HHn.out
      clear hK K hbn
      try simp only [Act.put, List.setIfInBounds_toArray, List.set_cons_zero, List.set_cons_succ]
      obtain ⟨wk, rfl⟩ : ∃ wk : World, wk = wn := ⟨_, rfl⟩
      obtain ⟨HGk, HHk, BEL⟩ := And.intro HGn (And.intro HHn BELn)
      clear HGn HHn BELn
      refine wpAnyH_ready (rs := [1, 4]) (by kernel_rfl) (by simp) ?_
      refine AllReadyH.cons (o := { dst := some 27, op := Go.Op.call { callee := Go.Callee.value (Go.Operand.func 9), args := #[Go.Operand.tmp 26], argTypes := #[25] }, type := 25, pos := "more.go:16", after := #[{ on := 0, ground := Go.Ground.data }], guard := none }) rfl (fun K hK => ?_) ?_
      · go_simp
        refine (HTG.out wk HGk.out.g).mono ?_
        rintro ee wn ⟨A0, e0, A1, e1, A2, e2, rfl, hkn, hbn⟩
        have D6A : Hid (a6 < wk.heap.size ∨ wn.heap.size ≤ a6) := Lib.hid (.inl (blt X6.out))
        have BELn := Lib.hid (BEL.out.trans (hbn.mono BEL.out.size))
        have HGn := Lib.hid (HGk.out.later hbn)
        have HHn := Lib.hid (HHk.out.later hbn)
        have X6 := Lib.hid (X6.out.later hbn)
        have KA := Lib.hid hkn
        clear hkn
        obtain ⟨la, hla⟩ : ∃ n, wk.heap.size = n := ⟨_, rfl⟩
        obtain ⟨ha, hha⟩ : ∃ n, wn.heap.size = n := ⟨_, rfl⟩
        rw [hla, hha] at KA
        rw [hla, hha] at D6A
        clear hla hha
        refine hK.out _ _ ?_ (fun hHeld => ?_)
        · exact ss_of HGn.out HHn.out
        clear hK K hbn
        try simp only [Act.put, List.setIfInBounds_toArray, List.set_cons_zero, List.set_cons_succ]
        obtain ⟨wk, rfl⟩ : ∃ wk : World, wk = wn := ⟨_, rfl⟩
        obtain ⟨HGk, HHk, BEL⟩ := And.intro HGn (And.intro HHn BELn)
        clear HGn HHn BELn
        refine wpAnyH_ready (rs := [3, 4]) (by kernel_rfl) (by simp) ?_
        refine AllReadyH.cons (o := { dst := some 29, op := Go.Op.call { callee := Go.Callee.value (Go.Operand.func 9), args := #[Go.Operand.tmp 28], argTypes := #[25] }, type := 25, pos := "more.go:16", after := #[{ on := 2, ground := Go.Ground.data }, { on := 1, ground := Go.Ground.chain }], guard := none }) rfl (fun K hK => ?_) ?_
        · go_simp
          refine (HTH.out wk HHk.out.g).mono ?_
          rintro ee wn ⟨C0, j0, C1, j1, C2, j2, rfl, hkn, hbn⟩
          have D6B : Hid (a6 < wk.heap.size ∨ wn.heap.size ≤ a6) := Lib.hid (.inl (blt X6.out))
          have BELn := Lib.hid (BEL.out.trans (hbn.mono BEL.out.size))
          have HGn := Lib.hid (HGk.out.later hbn)
          have HHn := Lib.hid (HHk.out.later hbn)
          have X6 := Lib.hid (X6.out.later hbn)
          have KA := Lib.hid (KA.out.later hbn)
          have KB := Lib.hid hkn
          clear hkn
          obtain ⟨lb, hlb⟩ : ∃ n, wk.heap.size = n := ⟨_, rfl⟩
          obtain ⟨hb, hhb⟩ : ∃ n, wn.heap.size = n := ⟨_, rfl⟩
          rw [hlb, hhb] at KB
          rw [hlb, hhb] at D6B
          clear hlb hhb
          refine hK.out _ _ ?_ (fun hHeld => ?_)
          · exact ss_of HGn.out HHn.out
          clear hK K hbn
          try simp only [Act.put, List.setIfInBounds_toArray, List.set_cons_zero, List.set_cons_succ]
          obtain ⟨wk, rfl⟩ : ∃ wk : World, wk = wn := ⟨_, rfl⟩
          obtain ⟨HGk, HHk, BEL⟩ := And.intro HGn (And.intro HHn BELn)
          clear HGn HHn BELn
          refine wpAnyH_ready (rs := [4]) (by kernel_rfl) (by simp) ?_
          refine AllReadyH.cons (o := { dst := some 5, op := Go.Op.alloc 25, type := 0, pos := "more.go:16", after := #[], guard := none }) rfl (fun K hK => ?_) ?_
          · go_simp
            obtain ⟨wn, hwn⟩ : ∃ wn, wk.alloc (.cells #[.slice none 0 0, .slice none 0 0, .slice none 0 0] 25) = wn := ⟨_, rfl⟩
            rw [hwn]
            have hbn : Below wk.heap.size wk wn := by rw [← hwn]; exact bel_one _ _
            have D56 : Hid (wk.heap.size ≠ a6) := Lib.hid (Ne.symm (Nat.ne_of_lt (blt X6.out)))
            have D5A : Hid (wk.heap.size < la ∨ ha ≤ wk.heap.size) := Lib.hid (.inr KA.out.1)
            have D5B : Hid (wk.heap.size < lb ∨ hb ≤ wk.heap.size) := Lib.hid (.inr KB.out.1)
            have L5 : Hid (w5.heap.size ≤ wk.heap.size) := Lib.hid BEL.out.size
            have BELn := Lib.hid (BEL.out.trans (hbn.mono BEL.out.size))
            have HGn := Lib.hid (HGk.out.later hbn)
            have HHn := Lib.hid (HHk.out.later hbn)
            have X6 := Lib.hid (X6.out.later hbn)
            have KA := Lib.hid (KA.out.later hbn)
            have KB := Lib.hid (KB.out.later hbn)
            have X5 : Hid (BX wn wk.heap.size) := Lib.hid (by rw [← hwn]; exact heap_alloc_new _ _)
            clear hwn
            obtain ⟨a5, ha5⟩ : ∃ n, wk.heap.size = n := ⟨_, rfl⟩
            rw [ha5] at X5 L5 D56 D5A D5B ⊢
            clear ha5
            refine hK.out _ _ ?_ (fun hHeld => ?_)
            · exact ss_of HGn.out HHn.out
            clear hK K hbn
            try simp only [Act.put, List.setIfInBounds_toArray, List.set_cons_zero, List.set_cons_succ]
            obtain ⟨wk, rfl⟩ : ∃ wk : World, wk = wn := ⟨_, rfl⟩
            obtain ⟨HGk, HHk, BEL⟩ := And.intro HGn (And.intro HHn BELn)
            clear HGn HHn BELn
            obtain ⟨w8, w9, e8, e9, th5, th6, b8, gb5, gb6, b9⟩ := two_boxes X5.out X6.out D56.out KA.out KB.out D5A.out D5B.out D6A.out D6B.out BEL.out L5.out L6.out
            have B8 := Lib.hid b8
            have B9 := Lib.hid b9
            have GB5 := Lib.hid gb5
            have GB6 := Lib.hid gb6
            have TH6 := Lib.hid th6
            clear b8 b9 gb5 gb6 th6
            refine wpAnyH_ready (rs := [6]) (by kernel_rfl) (by simp) ?_
            refine AllReadyH.cons (o := { dst := none, op := Go.Op.store 25 (Go.Operand.tmp 5) (Go.Operand.tmp 27), type := 0, pos := "more.go:16", after := #[{ on := 4, ground := Go.Ground.data }, { on := 1, ground := Go.Ground.data }, { on := 3, ground := Go.Ground.chain }, { on := 0, ground := Go.Ground.phase }, { on := 1, ground := Go.Ground.phase }, { on := 2, ground := Go.Ground.textOnly Go.Departure.lateStores }, { on := 3, ground := Go.Ground.textOnly Go.Departure.lateStoresUnsure }, { on := 4, ground := Go.Ground.phase }, { on := 5, ground := Go.Ground.phase }], guard := none }) rfl (fun K hK => ?_) AllReadyH.nil
            rw [if_pos (by rfl)]
            refine wp_store_mid 25 (.tmp 5) (.tmp 27) rfl _ 0 #[.slice A0 (trimL x0).ns.length e0, .slice A1 (trimL x0).rs.length e1, .slice A2 (trimL x0).ws.length e2] rfl rfl th5 infoG (one3 _ _ _ _ _ _ _ _ _) ?_
            rw [e8]
            refine hK.out _ _ ?_ (fun hHeld => ?_)
            · exact ss_of (HG5.out.later B8.out) (HH5.out.later B8.out)
            clear hK K
            try simp only [Act.put, List.setIfInBounds_toArray, List.set_cons_zero, List.set_cons_succ]
            refine wpAnyH_ready (rs := [7]) (by kernel_rfl) (by simp) ?_
            refine AllReadyH.cons (o := { dst := none, op := Go.Op.store 25 (Go.Operand.tmp 6) (Go.Operand.tmp 29), type := 0, pos := "more.go:16", after := #[{ on := 5, ground := Go.Ground.data }, { on := 3, ground := Go.Ground.data }, { on := 6, ground := Go.Ground.chain }, { on := 0, ground := Go.Ground.phase }, { on := 1, ground := Go.Ground.phase }, { on := 2, ground := Go.Ground.phase }, { on := 3, ground := Go.Ground.phase }, { on := 4, ground := Go.Ground.phase }, { on := 5, ground := Go.Ground.phase }, { on := 6, ground := Go.Ground.phase }], guard := none }) rfl (fun K hK => ?_) AllReadyH.nil
            rw [if_pos (by rfl)]
            refine wp_store_mid 25 (.tmp 6) (.tmp 29) rfl _ 0 #[.slice C0 (trimL x1).ns.length j0, .slice C1 (trimL x1).rs.length j1, .slice C2 (trimL x1).ws.length j2] rfl rfl TH6.out infoG (one3 _ _ _ _ _ _ _ _ _) ?_
            rw [e9]
            refine hK.out _ _ ?_ (fun hHeld => ?_)
            · exact ss_of (HG5.out.later B9.out) (HH5.out.later B9.out)
            clear hK K
            try simp only [Act.put, List.setIfInBounds_toArray, List.set_cons_zero, List.set_cons_succ]
            refine wpAnyH_done (by kernel_rfl) ?_ _
            refine NoPanic.normal ?_
            clear e8 e9
            go_wp2_with fail
            go_meet
            exact ⟨_, _, rfl, rfl, ⟨_, _, _, GB5.out⟩, ⟨_, _, _, GB6.out⟩, B9.out⟩
          exact AllReadyH.nil
        refine AllReadyH.cons (o := { dst := some 5, op := Go.Op.alloc 25, type := 0, pos := "more.go:16", after := #[], guard := none }) rfl (fun K hK => ?_) ?_
        · go_simp
          obtain ⟨wn, hwn⟩ : ∃ wn, wk.alloc (.cells #[.slice none 0 0, .slice none 0 0, .slice none 0 0] 25) = wn := ⟨_, rfl⟩
          rw [hwn]
          have hbn : Below wk.heap.size wk wn := by rw [← hwn]; exact bel_one _ _
          have D56 : Hid (wk.heap.size ≠ a6) := Lib.hid (Ne.symm (Nat.ne_of_lt (blt X6.out)))
          have D5A : Hid (wk.heap.size < la ∨ ha ≤ wk.heap.size) := Lib.hid (.inr KA.out.1)
          have L5 : Hid (w5.heap.size ≤ wk.heap.size) := Lib.hid BEL.out.size
          have BELn := Lib.hid (BEL.out.trans (hbn.mono BEL.out.size))
          have HGn := Lib.hid (HGk.out.later hbn)
          have HHn := Lib.hid (HHk.out.later hbn)
          have X6 := Lib.hid (X6.out.later hbn)
          have KA := Lib.hid (KA.out.later hbn)
          have X5 : Hid (BX wn wk.heap.size) := Lib.hid (by rw [← hwn]; exact heap_alloc_new _ _)
          clear hwn
          obtain ⟨a5, ha5⟩ : ∃ n, wk.heap.size = n := ⟨_, rfl⟩
          rw [ha5] at X5 L5 D56 D5A ⊢
          clear ha5
          refine hK.out _ _ ?_ (fun hHeld => ?_)
          · exact ss_of HGn.out HHn.out
          clear hK K hbn
          try simp only [Act.put, List.setIfInBounds_toArray, List.set_cons_zero, List.set_cons_succ]
          obtain ⟨wk, rfl⟩ : ∃ wk : World, wk = wn := ⟨_, rfl⟩
          obtain ⟨HGk, HHk, BEL⟩ := And.intro HGn (And.intro HHn BELn)
          clear HGn HHn BELn
          refine wpAnyH_ready (rs := [3]) (by kernel_rfl) (by simp) ?_
          refine AllReadyH.cons (o := { dst := some 29, op := Go.Op.call { callee := Go.Callee.value (Go.Operand.func 9), args := #[Go.Operand.tmp 28], argTypes := #[25] }, type := 25, pos := "more.go:16", after := #[{ on := 2, ground := Go.Ground.data }, { on := 1, ground := Go.Ground.chain }], guard := none }) rfl (fun K hK => ?_) ?_
          · go_simp
            refine (HTH.out wk HHk.out.g).mono ?_
            rintro ee wn ⟨C0, j0, C1, j1, C2, j2, rfl, hkn, hbn⟩
            have D5B : Hid (a5 < wk.heap.size ∨ wn.heap.size ≤ a5) := Lib.hid (.inl (blt X5.out))
            have D6B : Hid (a6 < wk.heap.size ∨ wn.heap.size ≤ a6) := Lib.hid (.inl (blt X6.out))
            have BELn := Lib.hid (BEL.out.trans (hbn.mono BEL.out.size))
            have HGn := Lib.hid (HGk.out.later hbn)
            have HHn := Lib.hid (HHk.out.later hbn)
            have X5 := Lib.hid (X5.out.later hbn)
            have X6 := Lib.hid (X6.out.later hbn)
            have KA := Lib.hid (KA.out.later hbn)
            have KB := Lib.hid hkn
            clear hkn
            obtain ⟨lb, hlb⟩ : ∃ n, wk.heap.size = n := ⟨_, rfl⟩
            obtain ⟨hb, hhb⟩ : ∃ n, wn.heap.size = n := ⟨_, rfl⟩
            rw [hlb, hhb] at KB
            rw [hlb, hhb] at D5B
            rw [hlb, hhb] at D6B
            clear hlb hhb
            refine hK.out _ _ ?_ (fun hHeld => ?_)
            · exact ss_of HGn.out HHn.out
            clear hK K hbn
            try simp only [Act.put, List.setIfInBounds_toArray, List.set_cons_zero, List.set_cons_succ]
            obtain ⟨wk, rfl⟩ : ∃ wk : World, wk = wn := ⟨_, rfl⟩
            obtain ⟨HGk, HHk, BEL⟩ := And.intro HGn (And.intro HHn BELn)
            clear HGn HHn BELn
            obtain ⟨w8, w9, e8, e9, th5, th6, b8, gb5, gb6, b9⟩ := two_boxes X5.out X6.out D56.out KA.out KB.out D5A.out D5B.out D6A.out D6B.out BEL.out L5.out L6.out
            have B8 := Lib.hid b8
            have B9 := Lib.hid b9
            have GB5 := Lib.hid gb5
            have GB6 := Lib.hid gb6
            have TH6 := Lib.hid th6
            clear b8 b9 gb5 gb6 th6
            refine wpAnyH_ready (rs := [6]) (by kernel_rfl) (by simp) ?_
            refine AllReadyH.cons (o := { dst := none, op := Go.Op.store 25 (Go.Operand.tmp 5) (Go.Operand.tmp 27), type := 0, pos := "more.go:16", after := #[{ on := 4, ground := Go.Ground.data }, { on := 1, ground := Go.Ground.data }, { on := 3, ground := Go.Ground.chain }, { on := 0, ground := Go.Ground.phase }, { on := 1, ground := Go.Ground.phase }, { on := 2, ground := Go.Ground.textOnly Go.Departure.lateStores }, { on := 3, ground := Go.Ground.textOnly Go.Departure.lateStoresUnsure }, { on := 4, ground := Go.Ground.phase }, { on := 5, ground := Go.Ground.phase }], guard := none }) rfl (fun K hK => ?_) AllReadyH.nil
            rw [if_pos (by rfl)]
            refine wp_store_mid 25 (.tmp 5) (.tmp 27) rfl _ 0 #[.slice A0 (trimL x0).ns.length e0, .slice A1 (trimL x0).rs.length e1, .slice A2 (trimL x0).ws.length e2] rfl rfl th5 infoG (one3 _ _ _ _ _ _ _ _ _) ?_
            rw [e8]
            refine hK.out _ _ ?_ (fun hHeld => ?_)
            · exact ss_of (HG5.out.later B8.out) (HH5.out.later B8.out)
            clear hK K
            try simp only [Act.put, List.setIfInBounds_toArray, List.set_cons_zero, List.set_cons_succ]
            refine wpAnyH_ready (rs := [7]) (by kernel_rfl) (by simp) ?_
            refine AllReadyH.cons (o := { dst := none, op := Go.Op.store 25 (Go.Operand.tmp 6) (Go.Operand.tmp 29), type := 0, pos := "more.go:16", after := #[{ on := 5, ground := Go.Ground.data }, { on := 3, ground := Go.Ground.data }, { on := 6, ground := Go.Ground.chain }, { on := 0, ground := Go.Ground.phase }, { on := 1, ground := Go.Ground.phase }, { on := 2, ground := Go.Ground.phase }, { on := 3, ground := Go.Ground.phase }, { on := 4, ground := Go.Ground.phase }, { on := 5, ground := Go.Ground.phase }, { on := 6, ground := Go.Ground.phase }], guard := none }) rfl (fun K hK => ?_) AllReadyH.nil
            rw [if_pos (by rfl)]
            refine wp_store_mid 25 (.tmp 6) (.tmp 29) rfl _ 0 #[.slice C0 (trimL x1).ns.length j0, .slice C1 (trimL x1).rs.length j1, .slice C2 (trimL x1).ws.length j2] rfl rfl TH6.out infoG (one3 _ _ _ _ _ _ _ _ _) ?_
            rw [e9]
            refine hK.out _ _ ?_ (fun hHeld => ?_)
            · exact ss_of (HG5.out.later B9.out) (HH5.out.later B9.out)
            clear hK K
            try simp only [Act.put, List.setIfInBounds_toArray, List.set_cons_zero, List.set_cons_succ]
            refine wpAnyH_done (by kernel_rfl) ?_ _
            refine NoPanic.normal ?_
            clear e8 e9
            go_wp2_with fail
            go_meet
            exact ⟨_, _, rfl, rfl, ⟨_, _, _, GB5.out⟩, ⟨_, _, _, GB6.out⟩, B9.out⟩
          exact AllReadyH.nil
        exact AllReadyH.nil
      refine AllReadyH.cons (o := { dst := some 5, op := Go.Op.alloc 25, type := 0, pos := "more.go:16", after := #[], guard := none }) rfl (fun K hK => ?_) ?_
      · go_simp
        obtain ⟨wn, hwn⟩ : ∃ wn, wk.alloc (.cells #[.slice none 0 0, .slice none 0 0, .slice none 0 0] 25) = wn := ⟨_, rfl⟩
        rw [hwn]
        have hbn : Below wk.heap.size wk wn := by rw [← hwn]; exact bel_one _ _
        have D56 : Hid (wk.heap.size ≠ a6) := Lib.hid (Ne.symm (Nat.ne_of_lt (blt X6.out)))
        have L5 : Hid (w5.heap.size ≤ wk.heap.size) := Lib.hid BEL.out.size
        have BELn := Lib.hid (BEL.out.trans (hbn.mono BEL.out.size))
        have HGn := Lib.hid (HGk.out.later hbn)
        have HHn := Lib.hid (HHk.out.later hbn)
        have X6 := Lib.hid (X6.out.later hbn)
        have X5 : Hid (BX wn wk.heap.size) := Lib.hid (by rw [← hwn]; exact heap_alloc_new _ _)
        clear hwn
        obtain ⟨a5, ha5⟩ : ∃ n, wk.heap.size = n := ⟨_, rfl⟩
        rw [ha5] at X5 L5 D56 ⊢
        clear ha5
        refine hK.out _ _ ?_ (fun hHeld => ?_)
        · exact ss_of HGn.out HHn.out
        clear hK K hbn
        try simp only [Act.put, List.setIfInBounds_toArray, List.set_cons_zero, List.set_cons_succ]
        obtain ⟨wk, rfl⟩ : ∃ wk : World, wk = wn := ⟨_, rfl⟩
        obtain ⟨HGk, HHk, BEL⟩ := And.intro HGn (And.intro HHn BELn)
        clear HGn HHn BELn
        refine wpAnyH_ready (rs := [1]) (by kernel_rfl) (by simp) ?_
        refine AllReadyH.cons (o := { dst := some 27, op := Go.Op.call { callee := Go.Callee.value (Go.Operand.func 9), args := #[Go.Operand.tmp 26], argTypes := #[25] }, type := 25, pos := "more.go:16", after := #[{ on := 0, ground := Go.Ground.data }], guard := none }) rfl (fun K hK => ?_) ?_
        · go_simp
          refine (HTG.out wk HGk.out.g).mono ?_
          rintro ee wn ⟨A0, e0, A1, e1, A2, e2, rfl, hkn, hbn⟩
          have D5A : Hid (a5 < wk.heap.size ∨ wn.heap.size ≤ a5) := Lib.hid (.inl (blt X5.out))
          have D6A : Hid (a6 < wk.heap.size ∨ wn.heap.size ≤ a6) := Lib.hid (.inl (blt X6.out))
          have BELn := Lib.hid (BEL.out.trans (hbn.mono BEL.out.size))
          have HGn := Lib.hid (HGk.out.later hbn)
          have HHn := Lib.hid (HHk.out.later hbn)
          have X5 := Lib.hid (X5.out.later hbn)
          have X6 := Lib.hid (X6.out.later hbn)
          have KA := Lib.hid hkn
          clear hkn
          obtain ⟨la, hla⟩ : ∃ n, wk.heap.size = n := ⟨_, rfl⟩
          obtain ⟨ha, hha⟩ : ∃ n, wn.heap.size = n := ⟨_, rfl⟩
          rw [hla, hha] at KA
          rw [hla, hha] at D5A
          rw [hla, hha] at D6A
          clear hla hha
          refine hK.out _ _ ?_ (fun hHeld => ?_)
          · exact ss_of HGn.out HHn.out
          clear hK K hbn
          try simp only [Act.put, List.setIfInBounds_toArray, List.set_cons_zero, List.set_cons_succ]
          obtain ⟨wk, rfl⟩ : ∃ wk : World, wk = wn := ⟨_, rfl⟩
          obtain ⟨HGk, HHk, BEL⟩ := And.intro HGn (And.intro HHn BELn)
          clear HGn HHn BELn
          refine wpAnyH_ready (rs := [3]) (by kernel_rfl) (by simp) ?_
          refine AllReadyH.cons (o := { dst := some 29, op := Go.Op.call { callee := Go.Callee.value (Go.Operand.func 9), args := #[Go.Operand.tmp 28], argTypes := #[25] }, type := 25, pos := "more.go:16", after := #[{ on := 2, ground := Go.Ground.data }, { on := 1, ground := Go.Ground.chain }], guard := none }) rfl (fun K hK => ?_) ?_
          · go_simp
            refine (HTH.out wk HHk.out.g).mono ?_
            rintro ee wn ⟨C0, j0, C1, j1, C2, j2, rfl, hkn, hbn⟩
            have D5B : Hid (a5 < wk.heap.size ∨ wn.heap.size ≤ a5) := Lib.hid (.inl (blt X5.out))
            have D6B : Hid (a6 < wk.heap.size ∨ wn.heap.size ≤ a6) := Lib.hid (.inl (blt X6.out))
            have BELn := Lib.hid (BEL.out.trans (hbn.mono BEL.out.size))
            have HGn := Lib.hid (HGk.out.later hbn)
            have HHn := Lib.hid (HHk.out.later hbn)
            have X5 := Lib.hid (X5.out.later hbn)
            have X6 := Lib.hid (X6.out.later hbn)
            have KA := Lib.hid (KA.out.later hbn)
            have KB := Lib.hid hkn
            clear hkn
            obtain ⟨lb, hlb⟩ : ∃ n, wk.heap.size = n := ⟨_, rfl⟩
            obtain ⟨hb, hhb⟩ : ∃ n, wn.heap.size = n := ⟨_, rfl⟩
            rw [hlb, hhb] at KB
            rw [hlb, hhb] at D5B
            rw [hlb, hhb] at D6B
            clear hlb hhb
            refine hK.out _ _ ?_ (fun hHeld => ?_)
            · exact ss_of HGn.out HHn.out
            clear hK K hbn
            try simp only [Act.put, List.setIfInBounds_toArray, List.set_cons_zero, List.set_cons_succ]
            obtain ⟨wk, rfl⟩ : ∃ wk : World, wk = wn := ⟨_, rfl⟩
            obtain ⟨HGk, HHk, BEL⟩ := And.intro HGn (And.intro HHn BELn)
            clear HGn HHn BELn
            obtain ⟨w8, w9, e8, e9, th5, th6, b8, gb5, gb6, b9⟩ := two_boxes X5.out X6.out D56.out KA.out KB.out D5A.out D5B.out D6A.out D6B.out BEL.out L5.out L6.out
            have B8 := Lib.hid b8
            have B9 := Lib.hid b9
            have GB5 := Lib.hid gb5
            have GB6 := Lib.hid gb6
            have TH6 := Lib.hid th6
            clear b8 b9 gb5 gb6 th6
            refine wpAnyH_ready (rs := [6]) (by kernel_rfl) (by simp) ?_
            refine AllReadyH.cons (o := { dst := none, op := Go.Op.store 25 (Go.Operand.tmp 5) (Go.Operand.tmp 27), type := 0, pos := "more.go:16", after := #[{ on := 4, ground := Go.Ground.data }, { on := 1, ground := Go.Ground.data }, { on := 3, ground := Go.Ground.chain }, { on := 0, ground := Go.Ground.phase }, { on := 1, ground := Go.Ground.phase }, { on := 2, ground := Go.Ground.textOnly Go.Departure.lateStores }, { on := 3, ground := Go.Ground.textOnly Go.Departure.lateStoresUnsure }, { on := 4, ground := Go.Ground.phase }, { on := 5, ground := Go.Ground.phase }], guard := none }) rfl (fun K hK => ?_) AllReadyH.nil
            rw [if_pos (by rfl)]
            refine wp_store_mid 25 (.tmp 5) (.tmp 27) rfl _ 0 #[.slice A0 (trimL x0).ns.length e0, .slice A1 (trimL x0).rs.length e1, .slice A2 (trimL x0).ws.length e2] rfl rfl th5 infoG (one3 _ _ _ _ _ _ _ _ _) ?_
            rw [e8]
            refine hK.out _ _ ?_ (fun hHeld => ?_)
            · exact ss_of (HG5.out.later B8.out) (HH5.out.later B8.out)
            clear hK K
            try simp only [Act.put, List.setIfInBounds_toArray, List.set_cons_zero, List.set_cons_succ]
            refine wpAnyH_ready (rs := [7]) (by kernel_rfl) (by simp) ?_
            refine AllReadyH.cons (o := { dst := none, op := Go.Op.store 25 (Go.Operand.tmp 6) (Go.Operand.tmp 29), type := 0, pos := "more.go:16", after := #[{ on := 5, ground := Go.Ground.data }, { on := 3, ground := Go.Ground.data }, { on := 6, ground := Go.Ground.chain }, { on := 0, ground := Go.Ground.phase }, { on := 1, ground := Go.Ground.phase }, { on := 2, ground := Go.Ground.phase }, { on := 3, ground := Go.Ground.phase }, { on := 4, ground := Go.Ground.phase }, { on := 5, ground := Go.Ground.phase }, { on := 6, ground := Go.Ground.phase }], guard := none }) rfl (fun K hK => ?_) AllReadyH.nil
            rw [if_pos (by rfl)]
            refine wp_store_mid 25 (.tmp 6) (.tmp 29) rfl _ 0 #[.slice C0 (trimL x1).ns.length j0, .slice C1 (trimL x1).rs.length j1, .slice C2 (trimL x1).ws.length j2] rfl rfl TH6.out infoG (one3 _ _ _ _ _ _ _ _ _) ?_
            rw [e9]
            refine hK.out _ _ ?_ (fun hHeld => ?_)
            · exact ss_of (HG5.out.later B9.out) (HH5.out.later B9.out)
            clear hK K
            try simp only [Act.put, List.setIfInBounds_toArray, List.set_cons_zero, List.set_cons_succ]
            refine wpAnyH_done (by kernel_rfl) ?_ _
            refine NoPanic.normal ?_
            clear e8 e9
            go_wp2_with fail
            go_meet
            exact ⟨_, _, rfl, rfl, ⟨_, _, _, GB5.out⟩, ⟨_, _, _, GB6.out⟩, B9.out⟩
          exact AllReadyH.nil
        exact AllReadyH.nil
      exact AllReadyH.nil
    exact AllReadyH.nil
  case rest =>
  obtain ⟨p, q, rfl, rfl, ⟨A0, A1, A2, hp⟩, ⟨C0, C1, C2, hq⟩, hbd⟩ := hcut
  obtain ⟨wd, rfl⟩ : ∃ wd : World, wd = wc := ⟨_, rfl⟩
  have hdr := (Below.refl wd.heap.size wd).drew
  have HBd := Lib.hid ((HB5.out.trans (hbd.mono HB5.out.size)).drew)
  have HGd := Lib.hid ((HG5.out.later hbd).later hdr)
  have HHd := Lib.hid ((HH5.out.later hbd).later hdr)
  have HPd := Lib.hid (hp.later hdr)
  have HQd := Lib.hid (hq.later hdr)
  clear hp hq hbd hdr g0 g1 g2 h0 h1 h2
  have em0 := HE2.out
  have em1 := HE3.out
  have heq := texts_beq em0 em1 HO.out HP.out
  obtain ⟨T0, hT0⟩ : ∃ T, textR (trimL x0) = T := ⟨_, rfl⟩
  obtain ⟨T1, hT1⟩ : ∃ T, textR (trimL x1) = T := ⟨_, rfl⟩
  obtain ⟨q0, hq0⟩ : ∃ q0 : ByteArray, (⟨T0.toArray⟩ : ByteArray) = q0 := ⟨_, rfl⟩
  obtain ⟨q1, hq1⟩ : ∃ q1 : ByteArray, (⟨T1.toArray⟩ : ByteArray) = q1 := ⟨_, rfl⟩
  rw [hT0, hT1, hq0, hq1] at heq
  have HTA : Hid (∀ v W, Below w.heap.size w W → GAt W v (trimL x0) → Calls Tryd.prog 10 #[v] W (fun e w' => e = .returned (.string q0) ∧ Below W.heap.size W w')) := Lib.hid (fun v W hb h => by rw [← hq0, ← hT0]; exact textg_any v (trimL x0) W h (trim_szL em0 HZ0.out) (trim_pg em0 HO.out).ok (HTW.out.below hb))
  have HTB : Hid (∀ v W, Below w.heap.size w W → GAt W v (trimL x1) → Calls Tryd.prog 10 #[v] W (fun e w' => e = .returned (.string q1) ∧ Below W.heap.size W w')) := Lib.hid (fun v W hb h => by rw [← hq1, ← hT1]; exact textg_any v (trimL x1) W h (trim_szL em1 HZ1.out) (trim_pg em1 HP.out).ok (HTW.out.below hb))
  have hal : ∀ u v W, GAt W u x0 → GAt W v x1 → Calls Tryd.prog 11 #[u, v] W (BoolPost (alikeB x0 x1) W) := fun u v W h1 h2 => Al.alike_any u v x0 x1 W h1 h2 HZ0.out HZ1.out
  have har : ∀ u v W, GAt W u x1 → GAt W v x0 → Calls Tryd.prog 11 #[u, v] W (BoolPost (alikeB x0 x1) W) := fun u v W h1 h2 => by rw [← alike_comm]; exact Al.alike_any u v x1 x0 W h1 h2 HZ1.out HZ0.out
  obtain ⟨m, hm⟩ : ∃ m, alikeB x0 x1 = m := ⟨_, rfl⟩
  rw [hm] at heq hal har
  have HAL := Lib.hid hal
  have HAR := Lib.hid har
  clear hal har hm hq0 hq1 hT0 hT1 em0 em1
  obtain ⟨g0, g1, g2⟩ := HGd.out.cells
  obtain ⟨h0, h1, h2⟩ := HHd.out.cells
  obtain ⟨p0, p1, p2⟩ := HPd.out.cells
  obtain ⟨q0, q1, q2⟩ := HQd.out.cells
  cases m
  all_goals
    go_upto_region 4 with fail
    go_region_held3 (fun w' => w'.cell? ⟨w.heap.size, 0, none⟩ = some (.slice AN x0.ns.length cN) ∧ w'.cell? ⟨w.heap.size, 1, none⟩ = some (.slice BN x0.rs.length dN) ∧ w'.cell? ⟨w.heap.size, 2, none⟩ = some (.slice CN x0.ws.length fN) ∧ w'.cell? ⟨w.heap.size + 1, 0, none⟩ = some (.slice AM x1.ns.length cM) ∧ w'.cell? ⟨w.heap.size + 1, 1, none⟩ = some (.slice BM x1.rs.length dM) ∧ w'.cell? ⟨w.heap.size + 1, 2, none⟩ = some (.slice CM x1.ws.length fM) ∧ w'.cell? ⟨p, 0, none⟩ = some (A0) ∧ w'.cell? ⟨p, 1, none⟩ = some (A1) ∧ w'.cell? ⟨p, 2, none⟩ = some (A2) ∧ w'.cell? ⟨q, 0, none⟩ = some (C0) ∧ w'.cell? ⟨q, 1, none⟩ = some (C1) ∧ w'.cell? ⟨q, 2, none⟩ = some (C2))
      (first | ((try dsimp only); refine ⟨?_, ?_, ?_, ?_, ?_, ?_, ?_, ?_, ?_, ?_, ?_, ?_⟩ <;> (with_reducible assumption)) | fail)
      (first
        | (go_at_call 10; (with_reducible show Calls _ _ _ wd.drew _); go_must (refine (HTA.out _ _ HBd.out HPd.out.g).mono ?_; rintro e v1 ⟨rfl, hb⟩; have HBv1 := Lib.hid (HBd.out.trans (hb.mono HBd.out.size)); have HGv1 := Lib.hid (HGd.out.later hb); have HHv1 := Lib.hid (HHd.out.later hb); have HPv1 := Lib.hid (HPd.out.later hb); have HQv1 := Lib.hid (HQd.out.later hb); clear hb; obtain ⟨g0, g1, g2⟩ := HGv1.out.cells; obtain ⟨h0, h1, h2⟩ := HHv1.out.cells; obtain ⟨p0, p1, p2⟩ := HPv1.out.cells; obtain ⟨q0, q1, q2⟩ := HQv1.out.cells))
        | (go_at_call 10; (with_reducible show Calls _ _ _ v1 _); go_must (refine (HTB.out _ _ HBv1.out HQv1.out.g).mono ?_; rintro e v2 ⟨rfl, hb⟩; have HBv2 := Lib.hid (HBv1.out.trans (hb.mono HBv1.out.size)); have HGv2 := Lib.hid (HGv1.out.later hb); have HHv2 := Lib.hid (HHv1.out.later hb); have HPv2 := Lib.hid (HPv1.out.later hb); have HQv2 := Lib.hid (HQv1.out.later hb); clear hb; obtain ⟨g0, g1, g2⟩ := HGv2.out.cells; obtain ⟨h0, h1, h2⟩ := HHv2.out.cells; obtain ⟨p0, p1, p2⟩ := HPv2.out.cells; obtain ⟨q0, q1, q2⟩ := HQv2.out.cells))
        | (go_at_call 11; (with_reducible show Calls _ _ _ v2 _); go_must (refine (HAL.out _ _ _ HGv2.out.g HHv2.out.g).mono ?_; rintro e v3 ⟨rfl, hb⟩; have HBv3 := Lib.hid (HBv2.out.trans (hb.mono HBv2.out.size)); have HGv3 := Lib.hid (HGv2.out.later hb); have HHv3 := Lib.hid (HHv2.out.later hb); have HPv3 := Lib.hid (HPv2.out.later hb); have HQv3 := Lib.hid (HQv2.out.later hb); clear hb; obtain ⟨g0, g1, g2⟩ := HGv3.out.cells; obtain ⟨h0, h1, h2⟩ := HHv3.out.cells; obtain ⟨p0, p1, p2⟩ := HPv3.out.cells; obtain ⟨q0, q1, q2⟩ := HQv3.out.cells))
        | (go_at_call 11; (with_reducible show Calls _ _ _ v3 _); go_must (refine (HAL.out _ _ _ HGv3.out.g HHv3.out.g).mono ?_; rintro e v4 ⟨rfl, hb⟩; have HBv4 := Lib.hid (HBv3.out.trans (hb.mono HBv3.out.size)); have HGv4 := Lib.hid (HGv3.out.later hb); have HHv4 := Lib.hid (HHv3.out.later hb); have HPv4 := Lib.hid (HPv3.out.later hb); have HQv4 := Lib.hid (HQv3.out.later hb); clear hb; obtain ⟨g0, g1, g2⟩ := HGv4.out.cells; obtain ⟨h0, h1, h2⟩ := HHv4.out.cells; obtain ⟨p0, p1, p2⟩ := HPv4.out.cells; obtain ⟨q0, q1, q2⟩ := HQv4.out.cells))
        | (go_at_call 11; (with_reducible show Calls _ _ _ v4 _); go_must (refine (HAR.out _ _ _ HHv4.out.g HGv4.out.g).mono ?_; rintro e v5 ⟨rfl, hb⟩; have HBv5 := Lib.hid (HBv4.out.trans (hb.mono HBv4.out.size)); have HGv5 := Lib.hid (HGv4.out.later hb); have HHv5 := Lib.hid (HHv4.out.later hb); have HPv5 := Lib.hid (HPv4.out.later hb); have HQv5 := Lib.hid (HQv4.out.later hb); clear hb; obtain ⟨g0, g1, g2⟩ := HGv5.out.cells; obtain ⟨h0, h1, h2⟩ := HHv5.out.cells; obtain ⟨p0, p1, p2⟩ := HPv5.out.cells; obtain ⟨q0, q1, q2⟩ := HQv5.out.cells))
        | (go_at_call 8; (with_reducible show Calls _ _ _ v5 _); go_must (refine (Aw.awake_any _).mono ?_; rintro e v6 ⟨rfl, hb⟩; have HBv6 := Lib.hid (HBv5.out.trans (hb.mono HBv5.out.size)); have HGv6 := Lib.hid (HGv5.out.later hb); have HHv6 := Lib.hid (HHv5.out.later hb); have HPv6 := Lib.hid (HPv5.out.later hb); have HQv6 := Lib.hid (HQv5.out.later hb); clear hb; obtain ⟨g0, g1, g2⟩ := HGv6.out.cells; obtain ⟨h0, h1, h2⟩ := HHv6.out.cells; obtain ⟨p0, p1, p2⟩ := HPv6.out.cells; obtain ⟨q0, q1, q2⟩ := HQv6.out.cells))
        | fail)
    go_wp2
    go_ret
    exact ⟨rfl, HBv6.out⟩

theorem own : ownKnob Tryd.prog.godebug = none := by kernel_rfl
theorem laidOut : laidOutB Tryd.prog = true := by kernel_rfl
set_option maxRecDepth 100000 in
theorem lifted (os : Os) (started : os.Started) (H : Type) (enc : TypeId × Value → H) :
    ReturnsInHanded {} Tryd.checked os 3 .any (fun w args => (Rows.graphTextsSpec.pre enc Tryd.prog Tryd.f3 [] false w args ∧ laidMetH Tryd.prog Vt.laid w) ∧ sizedMet enc Tryd.prog Tryd.f3 (OpenSpec.ofChange Rows.graphTextsSpec) false w args) (Rows.graphTextsSpec.post enc Tryd.prog Tryd.f3 false true false false) := by
  refine returnsInHanded_of_change_and (C := Tryd.checked) (X := fun w _ => laidMetH Tryd.prog Vt.laid w) (fun _ _ _ hh h => h.of_heap hh) own started (by kernel_rfl) Tryd.func3
    (ChangeSpec.witness_shaped (enc := enc) (C := Tryd.checked) (os := os) (X := fun w _ => laidMetH Tryd.prog Vt.laid w) false (World.doorLaid Tryd.prog 400 os) #[.agg #[.slice none 0 0, .slice none 0 0, .slice none 0 0], .agg #[.slice none 0 0, .slice none 0 0, .slice none 0 0]] 8 rfl (World.shaped_of_RefB (by kernel_rfl) (by kernel_rfl)) (by kernel_rfl) (by kernel_rfl) (by kernel_rfl) (Vt.door_met os _)) ?_
  intro W base args ds gs before hval0 hW _ hsz0 hL _
  have hsz : (DataW.weightsEach Tryd.prog (Tryd.f3.params.toList ++ Rows.graphTextsSpec.plain.varTypes Tryd.prog) (ds ++ gs)).all (· ≤ reachBytes) = true := hsz0
  have hval : ∀ (j : Nat) t v, Tryd.f3.params[j]? = some t → args[j]? = some v → Value.okWide Tryd.prog W .any base t v := hval0
  have hW' := hW
  obtain ⟨p, q, hA0, hV, rfl, hfz, hnd⟩ := hW
  have hA : DataW.TrodAll enc Tryd.prog W 0 (fun _ => true) true Tryd.f3.params.toList args.toList ds p := hA0
  rw [Tryd.params3] at hA hval hsz
  obtain ⟨v0, vs0, d0, ds0, p0, q0, hargs, rfl, rfl, h0, r0⟩ := trodAll_cons hA
  obtain ⟨v1, vs1, d1, ds1, p1, q1, rfl, rfl, rfl, h1, r1⟩ := trodAll_cons r0
  obtain ⟨rfl, rfl, rfl⟩ := trodAll_nil r1
  obtain rfl : args = #[v0, v1] := by cases args; simp_all
  obtain ⟨rfl, rfl⟩ := trodVars_none hV
  have k0 := h0
  have lt0 : ∀ x ∈ p0, x.block < W.heap.size := by obtain ⟨m, hm⟩ := k0; exact DataW.trod_lt m _ _ _ hm
  obtain ⟨fuel0, hf0⟩ := h0
  obtain ⟨x0, hk0, ok0⟩ := (Ba.opens_g3) H enc W 0 _ _ _ _ _ hf0
  have hg0 := Ba.gat_of (hval 0 25 v0 rfl rfl) hk0
  have k1 := h1
  have lt1 : ∀ x ∈ p1, x.block < W.heap.size := by obtain ⟨m, hm⟩ := k1; exact DataW.trod_lt m _ _ _ hm
  obtain ⟨fuel1, hf1⟩ := h1
  obtain ⟨x1, hk1, ok1⟩ := (Ba.opens_g3) H enc W 0 _ _ _ _ _ hf1
  have hg1 := Ba.gat_of (hval 1 25 v1 rfl rfl) hk1
  clear hA0 hval0
  refine (walk W (Vt.tab hL) _ x0 hg0 ok0 _ x1 hg1 ok1).mono fun e W' ⟨he, bel⟩ => ?_
  subst he
  exact ⟨_, rfl, _, _, _, [], _, [], hW', trodAll_mk1 (shut_bool Tryd.underlying4 _), (trodAll_cons_mk (Below.trod laidOut (by kernel_rfl) (of_decide_eq_true (by kernel_rfl)) k0 bel lt0) (trodAll_cons_mk (Below.trod laidOut (by kernel_rfl) (of_decide_eq_true (by kernel_rfl)) k1 bel lt1) trodAll_mk0)), rfl, bel.frame _, fun h => by cases h⟩
theorem over : Rows.graphTextsRow.holds Tryd.pinned (OpenSpec.ofChange Rows.graphTextsSpec) :=
  OpenClaim.holds_of_wide 3 Tryd.f3 rfl rfl rfl rfl rfl rfl rfl ⟨rfl, rfl, rfl, rfl, rfl⟩ rfl rfl rfl rfl rfl (by kernel_rfl) Tryd.func3 (by kernel_rfl)
    (of_decide_eq_true (by kernel_rfl)) (by unfold Func.isWrapper; first | (rw [if_pos (by decide +kernel)]; kernel_rfl) | (rw [if_neg (by decide +kernel)]; exact ⟨rfl, rfl⟩))
    (fun os started H enc _ => lifted os started H enc)
theorem proved : Rows.GraphTextsCardSaid :=
  Claim7.holds_tied_plain_at .later [] [.data, .data, .data] true (true, "d175cb7290e215640c6c7df098eae224166e15dd4f9b8138b6d90375831efef9") false
    over (fun _ h => by cases h) (by kernel_rfl) (fun _ h => by cases h) graphTexts_row_tie rfl ⟨rfl, rfl⟩ (by kernel_rfl) rfl
    (fun f fn hf hfn => by
      obtain rfl : f = 3 := Option.some.inj ((show Tryd.prog.funcNamed "scullion/scullionlaw12.GraphTexts" = some 3 by kernel_rfl).symm.trans hf) |>.symm
      obtain rfl : fn = Tryd.f3 := (Option.some.inj (Tryd.func3.symm.trans hfn)).symm
      exact ⟨by kernel_rfl, fun j t ht => by
        rw [Tryd.params3] at ht
        have hm : t ∈ [25, 25] := by simpa using Array.mem_of_getElem? ht
        have hall : ([25, 25].all fun u => !Tryd.prog.wantsStandIn u) = true := by kernel_rfl
        exact (show Tryd.prog.wantsStandIn t = false by simpa using List.all_eq_true.1 hall t hm)⟩)
    (by kernel_rfl)
#print axioms proved
end Go.Proofs.YtdgclpgjoanimaaDoor.graphTexts
