/-
  From more nodes as much or more is reached; from what is reached nothing new.
-/
import Derived.Test.YtdgclpgjoanimaaRows
import Derived.WalkKit
import Derived.WalkSpells
import Derived.WalkLawsBesides
import Derived.WalkMore
import Derived.ProofKit
import Derived.OpenShut
import Derived.ShutString
import Derived.ChangeOld
import Derived.Below
import Derived.SizedLaws
import Derived.Lib.Hide
import Derived.Test.YtdgclpgjoanimaaOpen
import Derived.Test.YtdgclpgjoanimaaLw
import Derived.Test.YtdgclpgjoanimaaRf
import Derived.Deep.RegionHeld3
import Derived.Deep.DeepMust
namespace Go.Proofs.Ytdgclpgjoanimaa.graphMore
open Go.RowKit Go.ChangeShapes Go.WideShapes Go.ChangeAt Go.Proofs.YtdgclpgjoanimaaW.PrintWords
set_option linter.unusedVariables false
open Go.Proofs.Ytdgclpgjoanimaa.Ba Go.Proofs.Ytdgclpgjoanimaa.Ma Go.Proofs.Ytdgclpgjoanimaa.Mb Go.Proofs.Ytdgclpgjoanimaa.Pu Go.Proofs.Ytdgclpgjoanimaa.Wa Go.Proofs.Ytdgclpgjoanimaa.Lw
/-- Reached, as a row of bools says it. -/
def RB (w : World) (A : Option Addr) (n : Nat) (W : List Int) : Prop := ∀ i, i < n → ∃ ad, A = some ad ∧ w.cell? (ad.add i) = some (.bool (decide ((i : Int) ∈ W)))
theorem RB.old {w w' : World} {A : Option Addr} {n : Nat} {W : List Int} (h : RB w A n W) (hb : ∀ k, k < w.heap.size → w'.heap[k]? = w.heap[k]?) : RB w' A n W := by
  intro i hi
  obtain ⟨ad, e, hc⟩ := h i hi
  exact ⟨ad, e, cell_old hc hb⟩
/-- Another block has been written. -/
theorem RB.grown {w w' : World} {A : Option Addr} {n : Nat} {W : List Int} {row : Option Nat} (h : RB w A n W) (hg : w.grownBy w' row) (hne : ∀ ad, A = some ad → some ad.block ≠ row) : RB w' A n W := by
  intro i hi
  obtain ⟨ad, rfl, hc⟩ := h i hi
  refine ⟨ad, rfl, ?_⟩
  rw [← hc]
  have hlt : (ad.add i).block < w.heap.size := by
    cases hh : w.heap[(ad.add i).block]? with
    | none =>
      unfold World.cell? at hc
      rw [hh] at hc
      simp at hc
    | some x => exact (Array.getElem?_eq_some_iff.1 hh).1
  have hbk : (ad.add i).block = ad.block := by unfold Addr.add; split <;> rfl
  unfold World.cell?
  rw [hg.block _ hlt (by rw [hbk]; exact hne _ rfl)]
theorem rb_of {w : World} {A : Option Addr} {g : G3} {xs : List Int} (h : Re.BRd w A (reachL g xs)) : RB w A g.ns.length (walkL g xs) := by
  intro i hi
  obtain ⟨ad, e, hc⟩ := h i (by rw [reachL_len]; exact hi)
  rw [reachL_at g xs i hi] at hc
  exact ⟨ad, e, hc⟩
/-- What is reached from more. -/
theorem more {g : G3} {a b : List Int} : ∀ x ∈ walkL g a, x ∈ walkL g (a ++ b) := walk_least (walk_shut g (a ++ b)) fun x hx hi => walk_from (List.mem_append_left _ hx) hi
/-- From what is reached nothing new. -/
theorem nothing {g : G3} {a l : List Int} (h1 : ∀ x ∈ l, x ∈ walkL g a) (h2 : ∀ x ∈ walkL g a, x ∈ l) : ∀ x, x ∈ walkL g l ↔ x ∈ walkL g a := fun x =>
  ⟨walk_least (walk_shut g a) (fun y hy _ => h1 y hy) x, walk_least (walk_shut g l) (fun y hy hi => walk_from (h2 y (walk_from hy hi)) hi) x⟩
/-- All that is reached, below k. -/
def allL (W : List Int) (k : Nat) : List Int := ((List.range k).filter (fun i : Nat => decide ((i : Int) ∈ W))).map (fun i : Nat => (i : Int))
theorem allL_succ (W : List Int) (k : Nat) : allL W (k + 1) = if (k : Int) ∈ W then allL W k ++ [(k : Int)] else allL W k := by
  unfold allL
  rw [List.range_succ, List.filter_append, List.map_append, List.filter_cons]
  split <;> rename_i h <;> simp_all
theorem allL_len (W : List Int) (k : Nat) : (allL W k).length ≤ k := by
  unfold allL
  rw [List.length_map]
  exact Nat.le_trans (List.length_filter_le _ _) (by simp)
theorem allL_mem {n : Nat} {W : List Int} (h : ∀ x ∈ W, isB n x = true) {x : Int} : x ∈ allL W n ↔ x ∈ W := by
  unfold allL
  simp only [List.mem_map, List.mem_filter, List.mem_range, decide_eq_true_eq]
  constructor
  · rintro ⟨i, ⟨_, hi⟩, rfl⟩; exact hi
  · intro hx
    obtain ⟨h0, h1⟩ := isB_iff.1 (h x hx)
    refine ⟨x.toNat, ⟨by omega, ?_⟩, by omega⟩
    rw [Int.toNat_of_nonneg h0]; exact hx
theorem app_step {ops : Array Oper} {o : Oper} {a : Act} {W w0 : World} {Q : Exit → Act → World → Prop} {Kc : Act → World → Prop} (hw : Region.wanted o (yielded ops a.tmps) = true) (s x : Operand)
    (ho : o.op = .call { callee := .builtin .append, args := #[s, x], argTypes := #[23, 23] }) (v : Value) (xs ys : List Int) (A : Option Addr) (m c : Nat) (hs : a.eval s = v) (hx : a.eval x = .slice A m c) (hm : m = ys.length)
    (HO : W.ownsRow w0.heap.size 3 1 v xs.length (xs.map (Value.int .i64))) (HR : Rd W A ys) (HB : Below w0.heap.size w0 W) (hl : xs.length + ys.length ≤ 1000)
    (h : ∀ A1 c1 w1, w1.ownsRow w0.heap.size 3 1 (.slice A1 (xs ++ ys).length c1) (xs ++ ys).length ((xs ++ ys).map (Value.int .i64)) → Below w0.heap.size w0 w1 → W.grownBy w1 v.ownBlock → ((Value.slice A1 (xs ++ ys).length c1).ownBlock = v.ownBlock ∨ ∃ b, (Value.slice A1 (xs ++ ys).length c1).ownBlock = some b ∧ W.heap.size ≤ b) → Kc (a.put o.dst (.slice A1 (xs ++ ys).length c1)) w1) :
    if Region.wanted o (yielded ops a.tmps) = true then Oper.wp Try.prog o a W Kc Q else Kc (a.put o.dst undef) W := by
  subst hm
  refine Kd.R_append_rows_step (P := Try.prog) (Kd.int .i64) (w0 := w0) (W := W) (Rr := (Kd.int .i64).K W) w0.heap.size hw s x 23 3 (.int .i64 0) 8 ho Try.underlying23 info3 rfl (by decide) (by decide) v xs ys A ys.length c (fun _ => True) (fun _ => False) hs hx (Kd.R_of_own HO fun _ _ => trivial) (Kd.C_of_reads (d := (0 : Int)) (reads_rd HR (by omega))) (fun _ _ h => h) (fun _ h => h.elim) (fun _ _ => trivial) HB HB.size (by omega) ?_
  intro v1 w1 hr1 hb1 hg1 hat1
  have ho1 := Kd.own_of_R hr1
  obtain ⟨_, A1, c1, e, _⟩ := own_rd ho1
  subst e
  exact h A1 c1 w1 ho1 hb1 hg1 hat1
theorem own_lit (W : World) (base : Nat) (hb : base ≤ W.heap.size) : (W.alloc (.cells #[] 3)).ownsRow base 3 1 (.slice (some ⟨W.heap.size, 0, none⟩) 0 0) ([] : List Int).length (([] : List Int).map (Value.int .i64)) :=
  World.ownsRow_lit (base := base) (e := 3) (size := 1) W #[] 0 hb (by decide) rfl
/-- What stays through the whole. -/
structure Qm (w0 W : World) (AN : Option Addr) (nN cN : Nat) (AR : Option Addr) (nR cR : Nat) (AW : Option Addr) (nW cW : Nat) (g : G3) (A1 : Option Addr) (a : List Int) (A2 : Option Addr) (b : List Int) : Prop where
  s : St w0 W w0.heap.size AN nN cN AR nR cR AW nW cW g
  a : Rd W A1 a
  b : Rd W A2 b
theorem Qm.later {w0 w w' : World} {AN : Option Addr} {nN cN : Nat} {AR : Option Addr} {nR cR : Nat} {AW : Option Addr} {nW cW : Nat} {g : G3} {A1 : Option Addr} {a : List Int} {A2 : Option Addr} {b : List Int} (h : Qm w0 w AN nN cN AR nR cR AW nW cW g A1 a A2 b) (hb : Below w.heap.size w w') : Qm w0 w' AN nN cN AR nR cR AW nW cW g A1 a A2 b :=
  ⟨h.s.later hb, h.a.below hb.block, h.b.below hb.block⟩
/-- .. and behind an append to a row of ints of the call's own. -/
theorem Qm.app {w0 w w' : World} {AN : Option Addr} {nN cN : Nat} {AR : Option Addr} {nR cR : Nat} {AW : Option Addr} {nW cW : Nat} {g : G3} {A1 : Option Addr} {a : List Int} {A2 : Option Addr} {b : List Int} (h : Qm w0 w AN nN cN AR nR cR AW nW cW g A1 a A2 b)
    (hg0 : GAt w0 (.agg #[.slice AN nN cN, .slice AR nR cR, .slice AW nW cW]) g) (ha0 : Rd w0 A1 a) (hb0 : Rd w0 A2 b) {v : Value} {n : Nat} {xs : List Value} (ho : w.ownsRow w0.heap.size 3 1 v n xs) (hg : w.grownBy w' v.ownBlock) (hb : Below w0.heap.size w0 w') : Qm w0 w' AN nN cN AR nR cR AW nW cW g A1 a A2 b :=
  ⟨⟨hg0.below hb, (hg.block _ (blt h.s.x) (fun e => own_ty ho h.s.x (by decide) e.symm)).trans h.s.x, hb⟩, ha0.below hb.block, hb0.below hb.block⟩
theorem own_rdQ {w : World} {base n : Nat} {A : Option Addr} {m c : Nat} {l : List Int} (h : w.ownsRow base 3 1 (.slice A m c) n (l.map (Value.int .i64))) : Rd w A l := Tm.own_rdA h
theorem lit_grown {W w6 : World} {v : Value} {o : Obj} (h : (W.alloc o).grownBy w6 v.ownBlock) : W.grownBy w6 v.ownBlock := World.grownBy.trans (World.grownBy_alloc _ _ _) h
theorem lit_apart {lo hi b : Nat} (h : lo ≤ b ∧ b < hi) (e : some b = (Value.slice (some ⟨hi, 0, none⟩) 0 0).ownBlock) : False := by
  simp only [Value.ownBlock] at e
  injection e with e
  omega
theorem lit_apart2 {W : World} {o : Obj} {hi b : Nat} (h : (W.alloc o).heap.size ≤ b ∧ b < hi) (e : some b = (Value.slice (some ⟨W.heap.size, 0, none⟩) 0 0).ownBlock) : False := by
  simp only [Value.ownBlock] at e
  injection e with e
  rw [size_al] at h
  omega
theorem lit_at1 {W : World} {o : Obj} {u : Option Nat} (lo : Nat) (h : u = (Value.slice (some ⟨W.heap.size, 0, none⟩) 0 0).ownBlock ∨ ∃ b, u = some b ∧ (W.alloc o).heap.size ≤ b) : ∀ x, lo ≤ x ∧ x < W.heap.size → u ≠ some x := by
  intro x hx e
  rcases h with h | ⟨b, h, h2⟩
  · rw [e] at h
    simp only [Value.ownBlock] at h
    injection h with h
    omega
  · rw [e] at h
    rw [size_al] at h2
    injection h with h
    omega
theorem lit_at2 {V W : World} {o : Obj} {u : Option Nat} (h : u = (Value.slice (some ⟨V.heap.size, 0, none⟩) 0 0).ownBlock ∨ ∃ b, u = some b ∧ W.heap.size ≤ b) : ∀ x, (V.alloc o).heap.size ≤ x ∧ x < W.heap.size → u ≠ some x := by
  intro x hx e
  rcases h with h | ⟨b, h, h2⟩
  · rw [e] at h
    simp only [Value.ownBlock] at h
    injection h with h
    rw [size_al] at hx
    omega
  · rw [e] at h
    injection h with h
    omega
set_option maxHeartbeats 16000000
set_option maxRecDepth 100000
theorem walk (w : World) (v0 : Value) (x0 : Ba.G3) (hk0 : Ba.GAt w v0 x0) (ok0 : Ba.ok3 x0) (A1 : Option Addr) (c1 : Nat) (x1 : List Int) (hc1 : x1.length ≤ c1) (hr1 : Kd.C (Kd.int .i64) w A1 x1.length x1) (ok1 : x1.length ≤ maxLen ∧ ∀ y ∈ x1, (Lit.int .i64 y).wf = true) (A2 : Option Addr) (c2 : Nat) (x2 : List Int) (hc2 : x2.length ≤ c2) (hr2 : Kd.C (Kd.int .i64) w A2 x2.length x2) (ok2 : x2.length ≤ maxLen ∧ ∀ y ∈ x2, (Lit.int .i64 y).wf = true) :
    Calls Try.prog 6 #[v0, .slice A1 x1.length c1, .slice A2 x2.length c2] w fun e w' => e = .returned (.bool true) ∧ Below w.heap.size w w' := by
  have HL := Lib.hid (rd_C hr1)
  have HM := Lib.hid (rd_C hr2)
  have HG := Lib.hid hk0
  have hl1 := ok1.1
  have hl2 := ok2.1
  have HO := Lib.hid ok0
  obtain ⟨AN, cN, AR, cR, AW, cW, rfl, _, _, _, hNN, _, _⟩ := hk0
  have HS := Lib.hid (St.start HG.out)
  have HLT := Lib.hid (Re.light_any _ x0 _ HS.out.g HO.out)
  have hbx := (Below.refl w.heap.size w).alloc (Nat.le_refl _) (.cells #[.slice AN x0.ns.length cN, .slice AR x0.rs.length cR, .slice AW x0.ws.length cW] 25)
  have HQ := Lib.hid (Qm.mk HS.out (HL.out.below hbx.block) (HM.out.below hbx.block))
  obtain ⟨w1, hw1⟩ : ∃ w1, w.alloc (.cells #[.slice AN x0.ns.length cN, .slice AR x0.rs.length cR, .slice AW x0.ws.length cW] 25) = w1 := ⟨_, rfl⟩
  rw [hw1] at HS HLT HQ
  obtain ⟨k0, k1, k2⟩ := HS.out.cells
  clear hr1 hr2 ok0 ok1 ok2 hNN hbx
  cases el : Re.lightG x0
  · rw [el] at HLT
    clear el
    go_enter Try.func6, Try.ntmps6
    go_wp2_with fail
    refine HLT.out.mono ?_
    rintro e w2 ⟨rfl, hb2⟩
    have HS2 := Lib.hid (HS.out.later hb2)
    clear hb2
    go_wp2_with fail
    refine (Aw.awake_any _).mono ?_
    rintro e w3 ⟨rfl, hb3⟩
    have HS3 := Lib.hid (HS2.out.later hb3)
    go_wp2
    go_ret
    exact ⟨rfl, HS3.out.b⟩
  · have hz := Re.light_sz el
    obtain ⟨hn, _, _, _⟩ := Re.light_ns el
    rw [el] at HLT
    clear el
    by_cases h40 : x1.length ≤ 40
    rotate_left
    · go_enter Try.func6, Try.ntmps6
      go_wp2_with fail
      refine HLT.out.mono ?_
      rintro e w2 ⟨rfl, hb2⟩
      have HS2 := Lib.hid (HS.out.later hb2)
      clear hb2
      go_wp2_with fail
      refine (Aw.awake_any _).mono ?_
      rintro e w3 ⟨rfl, hb3⟩
      have HS3 := Lib.hid (HS2.out.later hb3)
      go_wp2
      go_ret
      exact ⟨rfl, HS3.out.b⟩
    by_cases h41 : x2.length ≤ 40
    rotate_left
    · go_enter Try.func6, Try.ntmps6
      go_wp2_with fail
      refine HLT.out.mono ?_
      rintro e w2 ⟨rfl, hb2⟩
      have HS2 := Lib.hid (HS.out.later hb2)
      clear hb2
      go_wp2_with fail
      refine (Aw.awake_any _).mono ?_
      rintro e w3 ⟨rfl, hb3⟩
      have HS3 := Lib.hid (HS2.out.later hb3)
      go_wp2
      go_ret
      exact ⟨rfl, HS3.out.b⟩
    have HZ := Lib.hid hz
    have HM1 : Hid (∀ W, GAt W (.agg #[.slice AN x0.ns.length cN, .slice AR x0.rs.length cR, .slice AW x0.ws.length cW]) x0 → Calls Try.prog 12 #[.agg #[.slice AN x0.ns.length cN, .slice AR x0.rs.length cR, .slice AW x0.ws.length cW]] W (BoolPost (mayG x0) W)) := Lib.hid (fun W h => Mc.rmay_any _ x0 W h HZ.out)
    cases em : mayG x0
    · rw [em] at HM1
      clear em hz
      go_enter Try.func6, Try.ntmps6
      go_wp2_with fail
      refine HLT.out.mono ?_
      rintro e w2 ⟨rfl, hb2⟩
      have HS2 := Lib.hid (HS.out.later hb2)
      obtain ⟨d0, d1, d2⟩ := HS2.out.cells
      clear hb2 k0 k1 k2
      go_wp2_with fail
      refine (HM1.out _ HS2.out.g).mono ?_
      rintro e w3 ⟨rfl, hb3⟩
      have HS3 := Lib.hid (HS2.out.later hb3)
      clear hb3
      go_wp2_with fail
      refine (Aw.awake_any _).mono ?_
      rintro e w4 ⟨rfl, hb4⟩
      have HS4 := Lib.hid (HS3.out.later hb4)
      go_wp2
      go_ret
      exact ⟨rfl, HS4.out.b⟩
    · have HRC : Hid (∀ (W : World) (A : Option Addr) (m c : Nat) (l : List Int), m = l.length → GAt W (.agg #[.slice AN x0.ns.length cN, .slice AR x0.rs.length cR, .slice AW x0.ws.length cW]) x0 → Rd W A l → l.length ≤ 1000 → Calls Try.prog 14 #[.agg #[.slice AN x0.ns.length cN, .slice AR x0.rs.length cR, .slice AW x0.ws.length cW], .slice A m c] W (fun e w' => ∃ A' c', e = .returned (.slice A' x0.ns.length c') ∧ (∀ ad, A' = some ad → W.heap.size ≤ ad.block ∧ ad.block < w'.heap.size) ∧ RB w' A' x0.ns.length (walkL x0 l) ∧ Below W.heap.size W w')) := Lib.hid (fun W A m c l hm h h2 h3 => by
        subst hm
        refine (Rf.reach_fresh _ x0 A c l W h HZ.out h2 (by omega)).mono ?_
        rintro e w' ⟨A', c', rfl, hf, hba, hb⟩
        have e1 : Re.reachR x0 l = reachL x0 l := by unfold Re.reachR; rw [em]; rfl
        rw [e1] at hba ⊢
        rw [reachL_len]
        exact ⟨A', c', rfl, hf, rb_of hba, hb⟩)
      have HMO := Lib.hid (more (g := x0) (a := x1) (b := x2))
      have HNO := Lib.hid (fun l h1 h2 => nothing (g := x0) (a := x1) (l := l) h1 h2)
      have HGD := Lib.hid (gd_walk x0 x1)
      rw [em] at HM1
      obtain ⟨nN, hnN⟩ : ∃ n, x0.ns.length = n := ⟨_, rfl⟩
      obtain ⟨nR, hnR⟩ : ∃ n, x0.rs.length = n := ⟨_, rfl⟩
      obtain ⟨nW, hnW⟩ : ∃ n, x0.ws.length = n := ⟨_, rfl⟩
      rw [hnN, hnR, hnW] at HG HQ HS HM1 HRC ⊢
      rw [hnN, hnR, hnW] at hw1
      rw [hnN] at k0 HGD HLT hn
      rw [hnR] at k1 HLT
      rw [hnW] at k2 HLT
      obtain ⟨V1, hV1⟩ : ∃ V, walkL x0 x1 = V := ⟨_, rfl⟩
      rw [hV1] at HMO HNO HGD
      have HV1 := Lib.hid hV1
      obtain ⟨V2, hV2⟩ : ∃ V, walkL x0 (x1 ++ x2) = V := ⟨_, rfl⟩
      rw [hV2] at HMO
      have HV2 := Lib.hid hV2
      have HLW := Lib.hid HL.out
      clear em hz hnN hnR hnW hV1 hV2
      go_enter Try.func6, Try.ntmps6
      go_wp2_with fail
      refine HLT.out.mono ?_
      rintro e w2 ⟨rfl, hb2⟩
      have HQ2 := Lib.hid (HQ.out.later hb2)
      obtain ⟨d0, d1, d2⟩ := HQ2.out.s.cells
      clear hb2 k0 k1 k2
      go_wp2_with fail
      refine (HM1.out _ HQ2.out.s.g).mono ?_
      rintro e w3 ⟨rfl, hb3⟩
      have HQ3 := Lib.hid (HQ2.out.later hb3)
      have HQd := Lib.hid (HQ3.out.later (Below.refl w3.heap.size w3).drew)
      have HQa := Lib.hid (HQ3.out.later ((Below.refl w3.heap.size w3).alloc (Nat.le_refl _) (.cells #[] 3)).drew)
      obtain ⟨e0, e1, e2⟩ := HQd.out.s.cells
      obtain ⟨f0, f1, f2⟩ := HQa.out.s.cells
      have HLd : Hid ((w3.alloc (.cells #[] 3)).drew.ownsRow w.heap.size 3 1 (.slice (some ⟨w3.heap.size, 0, none⟩) 0 0) ([] : List Int).length (([] : List Int).map (Value.int .i64))) := Lib.hid (own_lit w3 w.heap.size HQ3.out.s.b.size)
      clear hb3 d0 d1 d2
      go_wp2
      go_region_held3 (fun w' => w'.cell? ⟨w.heap.size, 0, none⟩ = some (.slice AN nN cN) ∧ w'.cell? ⟨w.heap.size, 1, none⟩ = some (.slice AR nR cR) ∧ w'.cell? ⟨w.heap.size, 2, none⟩ = some (.slice AW nW cW))
        (first | (refine ⟨?_, ?_, ?_⟩ <;> assumption) | go_keep)
        (first
          | (go_at_call 14; have := HX5; have := HR7; (with_reducible show Calls _ _ _ w7 _); go_must (refine (HRC.out w7 _ _ _ (x1 ++ x2) (by simp) HQ7.out.s.g (own_rdQ HR7.out) (by simp; omega)).mono ?_; rintro e w8 ⟨Ab, cb, rfl, _, hbb, hb8⟩; have HY8 := Lib.hid hbb; have HQ8 := Lib.hid (Qm.later HQ7.out hb8); have HX8 := Lib.hid (HX7.out.old hb8.block); obtain ⟨s0, s1, s2⟩ := HQ8.out.s.cells))
          | (go_at_call 14; have := HX5; have := HR75; (with_reducible show Calls _ _ _ w5 _); go_must (refine (HRC.out w5 _ _ _ (x1 ++ x2) (by simp) HQ5.out.s.g (own_rdQ HR75.out) (by simp; omega)).mono ?_; rintro e w8 ⟨Ab, cb, rfl, _, hbb, hb8⟩; have HY8 := Lib.hid hbb; have HQ8 := Lib.hid (Qm.later HQ5.out hb8); have HX8 := Lib.hid (HX5.out.1.old hb8.block); obtain ⟨s0, s1, s2⟩ := HQ8.out.s.cells))
          | (go_at_call 14; (with_reducible show Calls _ _ _ w7 _); go_must (refine (HRC.out w7 _ _ _ x1 rfl HQ7.out.s.g HQ7.out.a (by omega)).mono ?_; rintro e w5 ⟨Aa, ca, rfl, hfa, hba, hb5⟩; have HX5 := Lib.hid (And.intro hba hfa); have HQ5 := Lib.hid (Qm.later HQ7.out hb5); have HQ5a := Lib.hid (HQ5.out.later ((Below.refl w5.heap.size w5).alloc (Nat.le_refl _) (.cells #[] 3))); have HL5a := Lib.hid (own_lit w5 w.heap.size HQ5.out.s.b.size); have HR75 := Lib.hid (own_move HR7.out fun k hk => hb5.block k (HR7.out.lt k hk).2); obtain ⟨s0, s1, s2⟩ := HQ5.out.s.cells; obtain ⟨s3, s4, s5⟩ := HQ5a.out.s.cells))
          | (go_at_call 14; (with_reducible show Calls _ _ _ w6 _); go_must (refine (HRC.out w6 _ _ _ x1 rfl HQ6.out.s.g HQ6.out.a (by omega)).mono ?_; rintro e w5 ⟨Aa, ca, rfl, hfa, hba, hb5⟩; have HX5 := Lib.hid (And.intro hba hfa); have HQ5 := Lib.hid (Qm.later HQ6.out hb5); have HQ5a := Lib.hid (HQ5.out.later ((Below.refl w5.heap.size w5).alloc (Nat.le_refl _) (.cells #[] 3))); have HL5a := Lib.hid (own_lit w5 w.heap.size HQ5.out.s.b.size); have HR65 := Lib.hid (own_move HR6.out fun k hk => hb5.block k (HR6.out.lt k hk).2); obtain ⟨s0, s1, s2⟩ := HQ5.out.s.cells; obtain ⟨s3, s4, s5⟩ := HQ5a.out.s.cells))
          | (go_at_call 14; (with_reducible show Calls _ _ _ (w3.alloc (.cells #[] 3)).drew _); go_must (refine (HRC.out (w3.alloc (.cells #[] 3)).drew _ _ _ x1 rfl HQa.out.s.g HQa.out.a (by omega)).mono ?_; rintro e w5 ⟨Aa, ca, rfl, hfa, hba, hb5⟩; have HX5 := Lib.hid (And.intro hba hfa); have HQ5 := Lib.hid (Qm.later HQa.out hb5); have HQ5a := Lib.hid (HQ5.out.later ((Below.refl w5.heap.size w5).alloc (Nat.le_refl _) (.cells #[] 3))); have HL5a := Lib.hid (own_lit w5 w.heap.size HQ5.out.s.b.size); have HL5 := Lib.hid (own_move HLd.out fun k hk => hb5.block k (HLd.out.lt k hk).2); obtain ⟨s0, s1, s2⟩ := HQ5.out.s.cells; obtain ⟨s3, s4, s5⟩ := HQ5a.out.s.cells))
          | (go_at_call 14; (with_reducible show Calls _ _ _ w3.drew _); go_must (refine (HRC.out w3.drew _ _ _ x1 rfl HQd.out.s.g HQd.out.a (by omega)).mono ?_; rintro e w5 ⟨Aa, ca, rfl, hfa, hba, hb5⟩; have HX5 := Lib.hid (And.intro hba hfa); have HQ5 := Lib.hid (Qm.later HQd.out hb5); have HQ5a := Lib.hid (HQ5.out.later ((Below.refl w5.heap.size w5).alloc (Nat.le_refl _) (.cells #[] 3))); have HL5a := Lib.hid (own_lit w5 w.heap.size HQ5.out.s.b.size); skip; obtain ⟨s0, s1, s2⟩ := HQ5.out.s.cells; obtain ⟨s3, s4, s5⟩ := HQ5a.out.s.cells))
          | (refine app_step (W := w5) (w0 := w) (by rfl) (.tmp 38) (.tmp 39) (by rfl) _ ([] ++ x1) x2 A2 x2.length c2 (by rfl) (by rfl) rfl HR65.out HQ5.out.b HQ5.out.s.b (by simp; omega) ?_; intro A7 c7 w7 ho7 hb7 hg7 hat7; have HQ7 := Lib.hid (Qm.app HQ5.out HG.out HL.out HM.out HR65.out hg7 hb7); have HR7 := Lib.hid ho7; have HX7 := Lib.hid (HX5.out.1.grown hg7 (fun ad e1 e2 => by have h1 := (HR6.out.lt _ e2.symm).2; have h2 := (HX5.out.2 ad e1).1; omega)); obtain ⟨s0, s1, s2⟩ := HQ7.out.s.cells)
          | (refine app_step (W := w6) (w0 := w) (by rfl) (.tmp 38) (.tmp 39) (by rfl) _ ([] ++ x1) x2 A2 x2.length c2 (by rfl) (by rfl) rfl HR6.out HQ6.out.b HQ6.out.s.b (by simp; omega) ?_; intro A7 c7 w7 ho7 hb7 hg7 hat7; have HQ7 := Lib.hid (Qm.app HQ6.out HG.out HL.out HM.out HR6.out hg7 hb7); have HR7 := Lib.hid ho7; have HX7 := Lib.hid (HX6.out.grown hg7 (fun ad e1 e2 => HAT.out ad.block (HX5.out.2 ad e1) e2.symm)); obtain ⟨s0, s1, s2⟩ := HQ7.out.s.cells)
          | (refine app_step (W := w6) (w0 := w) (by rfl) (.tmp 38) (.tmp 39) (by rfl) _ ([] ++ x1) x2 A2 x2.length c2 (by rfl) (by rfl) rfl HR6.out HQ6.out.b HQ6.out.s.b (by simp; omega) ?_; intro A7 c7 w7 ho7 hb7 hg7 hat7; have HQ7 := Lib.hid (Qm.app HQ6.out HG.out HL.out HM.out HR6.out hg7 hb7); have HR7 := Lib.hid ho7; skip; obtain ⟨s0, s1, s2⟩ := HQ7.out.s.cells)
          | (refine app_step (W := w5.alloc (.cells #[] 3)) (w0 := w) (by rfl) (.tmp 36) (.tmp 37) (by rfl) _ [] x1 A1 x1.length c1 (by rfl) (by rfl) rfl HL5a.out HQ5a.out.a HQ5a.out.s.b (by simp; omega) ?_; intro A6 c6 w6 ho6 hb6 hg6 hat6; have HQ6 := Lib.hid (Qm.app HQ5a.out HG.out HL.out HM.out HL5a.out hg6 hb6); have HR6 := Lib.hid ho6; have HX6 := Lib.hid (HX5.out.1.grown (lit_grown hg6) (fun ad e1 e2 => lit_apart (HX5.out.2 ad e1) e2)); have HAT := Lib.hid (lit_at1 (w3.drew.heap.size) hat6); obtain ⟨s0, s1, s2⟩ := HQ6.out.s.cells)
          | (refine app_step (W := w5) (w0 := w) (by rfl) (.tmp 36) (.tmp 37) (by rfl) _ [] x1 A1 x1.length c1 (by rfl) (by rfl) rfl HL5.out HQ5.out.a HQ5.out.s.b (by simp; omega) ?_; intro A6 c6 w6 ho6 hb6 hg6 hat6; have HQ6 := Lib.hid (Qm.app HQ5.out HG.out HL.out HM.out HL5.out hg6 hb6); have HR6 := Lib.hid ho6; have HX6 := Lib.hid (HX5.out.1.grown hg6 (fun ad e1 e2 => lit_apart2 (W := w3) (o := .cells #[] 3) (HX5.out.2 ad e1) e2)); have HAT := Lib.hid (lit_at2 (o := .cells #[] 3) (V := w3) hat6); obtain ⟨s0, s1, s2⟩ := HQ6.out.s.cells)
          | (refine app_step (W := (w3.alloc (.cells #[] 3)).drew) (w0 := w) (by rfl) (.tmp 36) (.tmp 37) (by rfl) _ [] x1 A1 x1.length c1 (by rfl) (by rfl) rfl HLd.out HQa.out.a HQa.out.s.b (by simp; omega) ?_; intro A6 c6 w6 ho6 hb6 hg6 hat6; have HQ6 := Lib.hid (Qm.app HQa.out HG.out HL.out HM.out HLd.out hg6 hb6); have HR6 := Lib.hid ho6; skip; obtain ⟨s0, s1, s2⟩ := HQ6.out.s.cells)
          | fail)
      all_goals
        have HX9 : Hid (RB w8 Aa nN V1) := Lib.hid (by rw [← HV1.out]; exact HX8.out)
        have HY9 : Hid (RB w8 Ab nN V2) := Lib.hid (by rw [← HV2.out]; exact HY8.out)
        have n1 : ((nN : Int) != (nN : Int)) = false := by rw [bne_eq_false_iff_eq]
        clear HX8 HY8
        go_wp2
        go_loopw [9, 57] (fun v i wr => ∃ k : Nat, k ≤ nN ∧ i = .int .i64 (k : Int) ∧ wr.ownsRow w8.heap.size 3 1 v (allL V1 k).length ((allL V1 k).map (Value.int .i64)) ∧ Below w8.heap.size w8 wr) (fun _ i _ => nN - (intOf i).toNat)
        case atStart => exact ⟨0, Nat.zero_le _, rfl, own_nil _ _ _, Below.refl _ _⟩
        case round =>
          obtain ⟨k, hk, rfl, ho, hb⟩ := hrel
          have hal := allL_len V1 k
          have HAS := Lib.hid (allL_succ V1 k)
          obtain ⟨La, hLa⟩ : ∃ L, allL V1 k = L := ⟨_, rfl⟩
          rw [hLa] at ho hal HAS
          have HLA := Lib.hid hLa
          obtain ⟨_, A9, c9, rfl, _⟩ := own_rd ho
          have HO9 := Lib.hid ho
          have HB9 := Lib.hid hb
          have hbs := hb.size
          clear ho hLa
          by_cases hlt : k < nN
          · obtain ⟨adx, rfl, gx⟩ := (HX9.out.old hb.block) k hlt
            obtain ⟨ady, rfl, gy⟩ := (HY9.out.old hb.block) k hlt
            clear hb s0 s1 s2
            by_cases hin : (k : Int) ∈ V1
            · rw [decide_eq_true hin] at gx
              rw [decide_eq_true (HMO.out _ hin)] at gy
              rw [if_pos hin] at HAS
              have HR1 := Lib.hid (one_row wr (k : Int))
              clear hin
              go_wp2_with (at_builtin; refine print_append_row_of (P := Try.prog) (w0 := w8) (W := wr.alloc (.cells #[.int .i64 (k : Int)] 3)) (Value.int .i64) 0 w8.heap.size rfl (.tmp 75) (.tmp 77) 23 3 (.int .i64 0) 8 rfl Try.underlying23 info3 rfl (by decide) (fun _ => rfl) _ La [(k : Int)] _ 1 1 rfl rfl (HO9.out.alloc _) HR1.out (HB9.out.alloc hbs _) (by rw [size_al]; omega) ?c1 ?_)
              case c1 => omega
              intro v3 w9 ho3 hb3 _ _
              have HO3 : Hid (w9.ownsRow w8.heap.size 3 1 v3 (allL V1 (k + 1)).length ((allL V1 (k + 1)).map (Value.int .i64))) := Lib.hid (by rw [HAS.out, List.length_append]; exact ho3)
              clear ho3
              go_wp2
              go_roundw
              case rel => exact ⟨k + 1, by omega, by go_num, HO3.out, hb3⟩
              case measure => simp [intOf]; omega
            · rw [decide_eq_false hin] at gx
              rw [if_neg hin] at HAS
              clear hin
              go_wp2
              go_roundw
              case rel => exact ⟨k + 1, by omega, by go_num, by rw [HAS.out]; exact HO9.out, HB9.out⟩
              case measure => simp [intOf]; omega
          · obtain rfl : nN = k := by omega
            have HQ9 := Lib.hid (HQ8.out.later hb)
            obtain ⟨t0, t1, t2⟩ := HQ9.out.s.cells
            have hmem : ∀ x, x ∈ La ↔ x ∈ V1 := fun x => by rw [← HLA.out]; exact allL_mem HGD.out.2
            have HEQ := Lib.hid (HNO.out La (fun x hx => (hmem x).1 hx) (fun x hx => (hmem x).2 hx))
            obtain ⟨wz, rfl⟩ : ∃ wz : World, wz = wr := ⟨_, rfl⟩
            have HXZ := Lib.hid (HX9.out.old hb.block)
            clear hb s0 s1 s2 hmem hbs
            go_wp2_with fail
            refine (HRC.out _ _ _ _ La rfl HQ9.out.s.g (own_rdQ HO9.out) (by omega)).mono ?_
            rintro e w10 ⟨Ac, cc, rfl, _, hbz, hb10⟩
            have HZ10 : Hid (RB w10 Ac nN V1) := Lib.hid (fun i hi => by
              obtain ⟨ad, e, hc⟩ := hbz i hi
              refine ⟨ad, e, ?_⟩
              rw [hc]
              simp only [HEQ.out])
            have HX10 := Lib.hid (HXZ.out.old hb10.block)
            have HQ10 := Lib.hid (HQ9.out.later hb10)
            clear hbz hb10
            go_wp2
            go_loopw [85] (fun i wr => ∃ k : Nat, k ≤ nN ∧ i = .int .i64 (k : Int) ∧ wr.heap = w10.heap ∧ Below w10.heap.size w10 wr) (fun i _ => nN - (intOf i).toNat)
            case atStart => exact ⟨0, Nat.zero_le _, rfl, rfl, Below.refl _ _⟩
            case round =>
              obtain ⟨k, hk, rfl, hh, hb⟩ := hrel
              by_cases hlt : k < nN
              · obtain ⟨adz, rfl, gz⟩ := HZ10.out k hlt
                obtain ⟨adx, rfl, gx⟩ := HX10.out k hlt
                rw [← cell_heap hh] at gz gx
                have HH := Lib.hid hh
                clear hh t0 t1 t2
                obtain ⟨bb, hbb⟩ : ∃ bb, decide ((k : Int) ∈ V1) = bb := ⟨_, rfl⟩
                rw [hbb] at gz gx
                clear hbb
                cases bb
                all_goals
                  go_wp2
                  go_region
                  go_wp2
                  go_roundw
                  case rel => exact ⟨k + 1, by omega, by go_num, HH.out, hb.drew⟩
                  case measure => simp [intOf]; omega
              · obtain rfl : nN = k := by omega
                have HQF := Lib.hid (HQ10.out.later hb)
                go_wp2_with fail
                refine (Aw.awake_any _).mono ?_
                rintro e w11 ⟨rfl, hb11⟩
                have HS11 := Lib.hid (HQF.out.s.later hb11)
                go_wp2
                go_ret
                exact ⟨rfl, HS11.out.b⟩

theorem own : ownKnob Try.prog.godebug = none := by kernel_rfl
theorem laidOut : laidOutB Try.prog = true := by kernel_rfl
set_option maxRecDepth 100000 in
theorem lifted (os : Os) (started : os.Started) (H : Type) (enc : TypeId × Value → H) :
    ReturnsInHanded {} Try.checked os 6 .any (Rows.graphMoreSpec.pre6 enc Try.prog Try.f6 Rows.graphMoreRow.domain false) (Rows.graphMoreSpec.post enc Try.prog Try.f6 false true false false) := by
  refine returnsInHanded_of_change (C := Try.checked) own started (by kernel_rfl) Try.func6
    (ChangeSpec.witness6 (enc := enc) (C := Try.checked) false ⟨#[], #[.agg #[.slice none 0 0, .slice none 0 0, .slice none 0 0], .slice none 0 0, .slice none 0 0], []⟩ 8 (by kernel_rfl) (by kernel_rfl) (by kernel_rfl) (by kernel_rfl)) ?_
  intro W base args ds gs before hval0 hW hcnd _
  have hval : ∀ (j : Nat) t v, Try.f6.params[j]? = some t → args[j]? = some v → Value.okWide Try.prog W .any base t v := hval0
  have hW' := hW
  obtain ⟨p, q, hA0, hV, rfl, hfz, hnd⟩ := hW
  have hA : DataW.TrodAll enc Try.prog W 0 (fun _ => true) true Try.f6.params.toList args.toList ds p := hA0
  rw [Try.params6] at hA hval
  obtain ⟨v0, vs0, d0, ds0, p0, q0, hargs, rfl, rfl, h0, r0⟩ := trodAll_cons hA
  obtain ⟨v1, vs1, d1, ds1, p1, q1, rfl, rfl, rfl, h1, r1⟩ := trodAll_cons r0
  obtain ⟨v2, vs2, d2, ds2, p2, q2, rfl, rfl, rfl, h2, r2⟩ := trodAll_cons r1
  obtain ⟨rfl, rfl, rfl⟩ := trodAll_nil r2
  obtain rfl : args = #[v0, v1, v2] := by cases args; simp_all
  obtain ⟨rfl, rfl⟩ := trodVars_none hV
  have k0 := h0
  have lt0 : ∀ x ∈ p0, x.block < W.heap.size := by obtain ⟨m, hm⟩ := k0; exact DataW.trod_lt m _ _ _ hm
  obtain ⟨fuel0, hf0⟩ := h0
  obtain ⟨x0, hk0, ok0⟩ := (Ba.opens_g3) H enc W 0 _ _ _ _ _ hf0
  have hg0 := Ba.gat_of (hval 0 25 v0 rfl rfl) hk0
  obtain ⟨a1, len1, cap1, rfl⟩ := okWide_slice Try.underlying23 (hval 1 23 v1 rfl rfl)
  have k1 := h1
  have lt1 : ∀ x ∈ p1, x.block < W.heap.size := by obtain ⟨m, hm⟩ := k1; exact DataW.trod_lt m _ _ _ hm
  obtain ⟨fuel1, hf1⟩ := h1
  obtain ⟨x1, ⟨A1, c1, e1, hc1, hr1⟩, ok1⟩ := Op.opens_slice (n := 3) Try.underlying23 (by kernel_rfl) (Op.opens_int Try.underlying3) H enc W 0 _ _ _ _ _ hf1
  obtain ⟨rfl, rfl, rfl⟩ : a1 = A1 ∧ len1 = x1.length ∧ cap1 = c1 := by simpa [Value.cells] using e1
  obtain ⟨a2, len2, cap2, rfl⟩ := okWide_slice Try.underlying23 (hval 2 23 v2 rfl rfl)
  have k2 := h2
  have lt2 : ∀ x ∈ p2, x.block < W.heap.size := by obtain ⟨m, hm⟩ := k2; exact DataW.trod_lt m _ _ _ hm
  obtain ⟨fuel2, hf2⟩ := h2
  obtain ⟨x2, ⟨A2, c2, e2, hc2, hr2⟩, ok2⟩ := Op.opens_slice (n := 3) Try.underlying23 (by kernel_rfl) (Op.opens_int Try.underlying3) H enc W 0 _ _ _ _ _ hf2
  obtain ⟨rfl, rfl, rfl⟩ : a2 = A2 ∧ len2 = x2.length ∧ cap2 = c2 := by simpa [Value.cells] using e2
  clear hA0 hval0
  refine (walk W _ x0 hg0 ok0 _ _ x1 hc1 hr1 ok1 _ _ x2 hc2 hr2 ok2).mono fun e W' ⟨he, bel⟩ => ?_
  subst he
  exact ⟨_, rfl, _, _, _, [], _, [], hW', trodAll_mk1 (shut_bool Try.underlying4 _), (trodAll_cons_mk (Below.trod laidOut (by kernel_rfl) (of_decide_eq_true (by kernel_rfl)) k0 bel lt0) (trodAll_cons_mk (Below.trod laidOut (by kernel_rfl) (of_decide_eq_true (by kernel_rfl)) k1 bel lt1) (trodAll_cons_mk (Below.trod laidOut (by kernel_rfl) (of_decide_eq_true (by kernel_rfl)) k2 bel lt2) trodAll_mk0))), rfl, bel.frame _, fun h => by cases h⟩
theorem over : Rows.graphMoreRow.holds Try.pinned (OpenSpec.ofChange Rows.graphMoreSpec) :=
  OpenClaim.holds_of_wide 6 Try.f6 rfl rfl rfl rfl rfl rfl rfl ⟨rfl, rfl, rfl, rfl, rfl⟩ rfl rfl rfl rfl rfl (by kernel_rfl) Try.func6 (by kernel_rfl)
    (of_decide_eq_true (by kernel_rfl)) (by unfold Func.isWrapper; first | (rw [if_pos (by decide +kernel)]; kernel_rfl) | (rw [if_neg (by decide +kernel)]; exact ⟨rfl, rfl⟩))
    (fun os started H enc _ => lifted os started H enc)
theorem proved : Rows.GraphMoreSaid := over
#print axioms proved
end Go.Proofs.Ytdgclpgjoanimaa.graphMore
