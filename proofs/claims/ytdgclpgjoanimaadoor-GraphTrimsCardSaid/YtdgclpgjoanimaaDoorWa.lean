/- The walk of a graph: add (a closure), walk. -/
import Derived.Test.YtdgclpgjoanimaaDoorMb
import Derived.Test.YtdgclpgjoanimaaDoorPu
namespace Go.Proofs.YtdgclpgjoanimaaDoor.Wa
open Go.RowKit Go.ChangeShapes Go.WideShapes Go.Proofs.YtdgclpgjoanimaaDoorW.PrintWords Go.Proofs.YtdgclpgjoanimaaDoor.Ba Go.Proofs.YtdgclpgjoanimaaDoor.Ma Go.Proofs.YtdgclpgjoanimaaDoor.Mb Go.Proofs.YtdgclpgjoanimaaDoor.Pu
set_option linter.unusedVariables false
def metF (out : List Int) (j : Nat) : Value := .int .i64 (if (j : Int) ∈ out then 1 else 0)
/-- The walk's state: the graph's box, met's box, out's box, met's row, out's row. -/
structure WS (w : World) (B b bm bo m n : Nat) (s0 s1 s2 : Value) (out : List Int) (v : Value) : Prop where
  bx : w.heap[b]? = some (.cells #[s0, s1, s2] 25 (0, 0))
  hm : w.heap[bm]? = some (.cells #[.slice (some ⟨m, 0, none⟩) n n] 23 (0, 0))
  ho : w.heap[bo]? = some (.cells #[v] 23 (0, 0))
  row : w.rowIs m 3 n (metF out)
  own : w.ownsRow B 3 1 v out.length (out.map (Value.int .i64))
  ne : v.ownBlock ≠ some m
  gd : Gd n out
  lm : B ≤ m
  lo : B ≤ bo
  d1 : bm ≠ bo
theorem rowIs_ty {w : World} {b t n : Nat} {f : Nat → Value} (h : w.rowIs b t n f) {k t' : Nat} {cs : Array Value} (hk : w.heap[k]? = some (.cells cs t' (0, 0))) (hne : t ≠ t') : b ≠ k := by
  rintro rfl
  obtain ⟨c, hb, _, _⟩ := h
  rw [hk] at hb
  injection hb with hb
  injection hb with _ hb
  exact hne hb.symm
theorem own_ty {w : World} {base n size : Nat} {e t' : TypeId} {v : Value} {xs : List Value} (h : w.ownsRow base e size v n xs) {k : Nat} {cs : Array Value} (hk : w.heap[k]? = some (.cells cs t' (0, 0))) (hne : e ≠ t') : v.ownBlock ≠ some k := by
  intro e1
  obtain ⟨cs', hc⟩ := own_typed h k e1
  rw [hk] at hc
  injection hc with hc
  injection hc with _ hc
  exact hne hc.symm
theorem blt {w : World} {k : Nat} {o : Obj} (h : w.heap[k]? = some o) : k < w.heap.size := (Array.getElem?_eq_some_iff.1 h).1
theorem WS.below {w w' : World} {B b bm bo m n : Nat} {s0 s1 s2 v : Value} {out : List Int} (h : WS w B b bm bo m n s0 s1 s2 out v) (hb : Below w.heap.size w w') : WS w' B b bm bo m n s0 s1 s2 out v :=
  ⟨(hb.block _ (blt h.bx)).trans h.bx, (hb.block _ (blt h.hm)).trans h.hm, (hb.block _ (blt h.ho)).trans h.ho, h.row.of_block (hb.block _ h.row.lt), own_move h.own fun k hk => hb.block k (h.own.lt k hk).2, h.ne, h.gd, h.lm, h.lo, h.d1⟩
theorem one_row (w : World) (x : Int) : ReadsOf (Value.int .i64) 0 (w.alloc (.cells #[.int .i64 x] 3)) (some ⟨w.heap.size, 0, none⟩) 1 [x] := by
  refine ⟨rfl, by omega, fun _ => ⟨_, rfl, fun j hj => ?_⟩⟩
  obtain rfl : j = 0 := by omega
  exact cell_one_new _ _ _ 0 _ rfl
def AddPost (w : World) (B b bm bo m n : Nat) (s0 s1 s2 : Value) (out : List Int) (e : Ending) (w' : World) : Prop :=
  ∃ v', e = .returned (.tuple #[]) ∧ WS w' B b bm bo m n s0 s1 s2 out v' ∧ Below B w w'
set_option maxHeartbeats 4000000 in
theorem add_any (B b bm bo m : Nat) (AN : Option Addr) (n cN : Nat) (AR : Option Addr) (nR cR : Nat) (AW : Option Addr) (nW cW : Nat) (out : List Int) (v : Value) (x : Int) (w : World)
    (h : WS w B b bm bo m n (.slice AN n cN) (.slice AR nR cR) (.slice AW nW cW) out v) (hB : B ≤ w.heap.size) (hn : n ≤ 100000) :
    Calls Tryd.prog 43 #[.int .i64 x, .pointer (some ⟨b, 0, none⟩), .pointer (some ⟨bm, 0, none⟩), .pointer (some ⟨bo, 0, none⟩)] w (AddPost w B b bm bo m n (.slice AN n cN) (.slice AR nR cR) (.slice AW nW cW) (addI n out x)) := by
  obtain ⟨q0, q1, q2⟩ := Bx3.cells h.bx
  have q3 := cell_of_one h.hm
  have q4 := cell_of_one h.ho
  have H := Lib.hid h
  have HI := Lib.hid (is_any AN n cN AR nR cR AW nW cW x w)
  unfold gv at HI
  have hl := gd_le h.gd
  clear h
  cases ei : isB n x
  · have e : addI n out x = out := by unfold addI; rw [if_neg (by rw [ei]; simp)]
    rw [e]
    rw [ei] at HI
    clear e ei
    go_enter Tryd.func43, Tryd.ntmps43
    go_wp2_with fail
    refine HI.out.mono ?_
    rintro e w1 ⟨rfl, hb⟩
    have H1 := Lib.hid (H.out.below hb)
    have HB1 := Lib.hid (hb.mono hB)
    go_wp2
    go_end0
    exact ⟨_, rfl, H1.out, HB1.out⟩
  · obtain ⟨h0, h1⟩ := isB_iff.1 ei
    obtain ⟨k, rfl⟩ : ∃ k : Nat, x = (k : Int) := ⟨x.toNat, by omega⟩
    have hk : k < n := by omega
    have hc : ∀ w1 : World, w1.rowIs m 3 n (metF out) → w1.cell? ⟨m, k, none⟩ = some (.int .i64 (if (k : Int) ∈ out then 1 else 0)) := fun w1 hr => hr.cell hk
    have HC := Lib.hid hc
    clear hc
    rw [ei] at HI
    by_cases hm : (k : Int) ∈ out
    · have e : addI n out k = out := by unfold addI; rw [if_neg (fun h => h.2 hm)]
      rw [e]
      rw [if_pos hm] at HC
      clear e ei hm
      go_enter Tryd.func43, Tryd.ntmps43
      go_wp2_with fail
      refine HI.out.mono ?_
      rintro e w1 ⟨rfl, hb⟩
      have h1' := H.out.below hb
      have c1 := HC.out w1 h1'.row
      have c3 := cell_of_one h1'.hm
      have c4 := cell_of_one h1'.ho
      have H1 := Lib.hid h1'
      have HB1 := Lib.hid (hb.mono hB)
      clear h1' hb
      go_wp2
      go_end0
      exact ⟨_, rfl, H1.out, HB1.out⟩
    · have HE : Hid (addI n out k = out ++ [(k : Int)]) := Lib.hid (by unfold addI; rw [if_pos ⟨ei, hm⟩])
      have HG : Hid (Gd n (addI n out k)) := Lib.hid (gd_addI H.out.gd _)
      rw [HE.out] at HG ⊢
      rw [if_neg hm] at HC
      have HM := Lib.hid hm
      clear ei hm
      go_enter Tryd.func43, Tryd.ntmps43
      go_wp2_with fail
      refine HI.out.mono ?_
      rintro e w1 ⟨rfl, hb⟩
      have h1' := H.out.below hb
      have c1 := HC.out w1 h1'.row
      have f1 := h1'.row.frozen k
      have c3 := cell_of_one h1'.hm
      have hbs := hb.size
      obtain ⟨w2, hw2⟩ : ∃ w2, w1.setCell ⟨m, k, none⟩ (.int .i64 1) = w2 := ⟨_, rfl⟩
      have hg2 : w1.grownBy w2 (some m) := by rw [← hw2]; exact grown_set _ _ _ _
      have hmo := rowIs_ty h1'.row h1'.ho (by decide)
      have hmb := rowIs_ty h1'.row h1'.bx (by decide)
      have hmm := rowIs_ty h1'.row h1'.hm (by decide)
      have hB2 : Below B w1 w2 := ⟨hg2.os, hg2.tape, hg2.output, hg2.size, fun j hj => hg2.block j (by omega) (fun e => by injection e with e; have := h1'.lm; omega)⟩
      have h2 : WS w2 B b bm bo m n (.slice AN n cN) (.slice AR nR cR) (.slice AW nW cW) out v ∨ True := .inr trivial
      have bx2 := (hg2.block b (blt h1'.bx) (fun e => hmb (by injection e with e; exact e.symm))).trans h1'.bx
      have hm2 := (hg2.block bm (blt h1'.hm) (fun e => hmm (by injection e with e; exact e.symm))).trans h1'.hm
      have ho2 := (hg2.block bo (blt h1'.ho) (fun e => hmo (by injection e with e; exact e.symm))).trans h1'.ho
      have row2 : w2.rowIs m 3 n (metF (out ++ [(k : Int)])) := by
        rw [← hw2]
        refine (h1'.row.set k _).congr fun i hi => ?_
        unfold metF
        by_cases hik : i = k
        · subst hik; simp
        · rw [if_neg hik]
          have : ((i : Int) ∈ out ++ [(k : Int)]) ↔ (i : Int) ∈ out := by
            simp only [List.mem_append, List.mem_singleton]
            constructor
            · rintro (h | h)
              · exact h
              · exact absurd (by omega) hik
            · exact .inl
          simp only [this]
      have own2 : w2.ownsRow B 3 1 v out.length (out.map (Value.int .i64)) := own_move h1'.own fun j hj => hg2.block j (h1'.own.lt j hj).2 (fun e => h1'.ne (by rw [hj, e]))
      have c4 := cell_of_one ho2
      have fo := free_of_one ho2
      have hs2 := hg2.size
      have HB2 := Lib.hid ((hb.mono hB).trans hB2)
      have BX2 := Lib.hid bx2
      have HM2 := Lib.hid hm2
      have HO2 := Lib.hid ho2
      have ROW2 := Lib.hid row2
      have OWN2 := Lib.hid own2
      have HNE := Lib.hid h1'.ne
      have HLM := Lib.hid h1'.lm
      have HLO := Lib.hid h1'.lo
      have HD1 := Lib.hid h1'.d1
      have HMO := Lib.hid hmo
      obtain ⟨_, A5, c5, rfl, _⟩ := own_rd own2
      have hmlt := row2.lt
      have HML := Lib.hid hmlt
      have HOL := Lib.hid (blt ho2)
      clear h2 h1' hb hg2 hB2 bx2 hm2 ho2 row2 own2 hmo hmb hmm H
      have hr1 : ReadsOf (Value.int .i64) 0 (w2.alloc (.cells #[.int .i64 (k : Int)] 3)) (some ⟨w2.heap.size, 0, none⟩) 1 [(k : Int)] := one_row _ _
      have HR1 := Lib.hid hr1
      clear hr1 hmlt
      go_wp2_with (at_builtin; refine print_append_row_of (P := Tryd.prog) (w0 := w2) (W := w2.alloc (.cells #[.int .i64 (k : Int)] 3)) (Value.int .i64) 0 B rfl (.tmp 18) (.tmp 20) 23 3 (.int .i64 0) 8 rfl Tryd.underlying23 info3 rfl (by decide) (fun _ => rfl) _ out [(k : Int)] _ 1 1 rfl rfl (OWN2.out.alloc _) HR1.out ((Below.refl B w2).alloc (by omega) _) (by rw [size_al]; omega) ?c1 ?_)
      case c1 => omega
      intro v3 w3 ho3 hb3 hg3 hat3
      have HO3 : Hid (w3.ownsRow B 3 1 v3 (out ++ [(k : Int)]).length ((out ++ [(k : Int)]).map (Value.int .i64))) := Lib.hid (by rw [List.length_append]; exact ho3)
      have HB3 : Hid (Below B w2 w3) := Lib.hid hb3
      have HG3 : Hid (w2.grownBy w3 (Value.slice A5 out.length c5).ownBlock) := Lib.hid (World.grownBy.trans (World.grownBy_alloc _ _ _) hg3)
      have HN3 : Hid (v3.ownBlock ≠ some m) := Lib.hid (by
        rcases hat3 with h | ⟨b', h, h2⟩
        · rw [h]; exact HNE.out
        · intro e
          rw [h] at e
          injection e with e
          have := HML.out
          omega)
      obtain ⟨A6, c6, rfl⟩ : ∃ A c, v3 = .slice A (out.length + 1) c := by
        obtain ⟨_, A, c, e, _⟩ := own_rd HO3.out
        exact ⟨A, c, by rw [e, List.length_append]; rfl⟩
      have ho4 : w3.heap[bo]? = some (.cells #[.slice A5 out.length c5] 23 (0, 0)) := (HG3.out.block bo HOL.out (fun e => own_ty OWN2.out HO2.out (by decide) e.symm)).trans HO2.out
      have f4 := free_of_one ho4
      have c5' := cell_of_one ho4
      have HO4 := Lib.hid ho4
      have BX4 : Hid (w3.heap[b]? = _) := Lib.hid ((HG3.out.block b (blt BX2.out) (fun e => own_ty OWN2.out BX2.out (by decide) e.symm)).trans BX2.out)
      have HM4 : Hid (w3.heap[bm]? = _) := Lib.hid ((HG3.out.block bm (blt HM2.out) (fun e => own_ty OWN2.out HM2.out (by decide) e.symm)).trans HM2.out)
      have ROW4 := Lib.hid (ROW2.out.of_block (HG3.out.block m HML.out (fun e => HNE.out e.symm)))
      obtain ⟨w5, hw5⟩ : ∃ w5, w3.setCell ⟨bo, 0, none⟩ (.slice A6 (out.length + 1) c6) = w5 := ⟨_, rfl⟩
      have HG5 : Hid (w3.grownBy w5 (some bo)) := Lib.hid (by rw [← hw5]; exact grown_set _ _ _ _)
      have HO5 : Hid (w5.heap[bo]? = some (.cells #[.slice A6 (out.length + 1) c6] 23 (0, 0))) := Lib.hid (by rw [← hw5]; exact one_setCell HO4.out)
      have HOB : Hid (bo ≠ b) := Lib.hid (fun e => by
        have := HO4.out
        rw [e, BX4.out] at this
        injection this with this
        injection this with _ this
        cases this)
      have HWS : Hid (WS w5 B b bm bo m n (.slice AN n cN) (.slice AR nR cR) (.slice AW nW cW) (out ++ [(k : Int)]) (.slice A6 (out.length + 1) c6)) := Lib.hid
        ⟨(HG5.out.block b (blt BX4.out) (fun e => HOB.out (by injection e with e; exact e.symm))).trans BX4.out, (HG5.out.block bm (blt HM4.out) (fun e => HD1.out (by injection e with e))).trans HM4.out, HO5.out,
          ROW4.out.of_block (HG5.out.block m ROW4.out.lt (fun e => HMO.out (by injection e with e))), own_move HO3.out (fun j hj => HG5.out.block j (HO3.out.lt j hj).2 (fun e => own_ty HO3.out HO4.out (by decide) (by rw [hj, e]))), HN3.out, HG.out, HLM.out, HLO.out, HD1.out⟩
      have HB5 : Hid (Below B w w5) := Lib.hid (((HB2.out.trans HB3.out)).trans ⟨HG5.out.os, HG5.out.tape, HG5.out.output, HG5.out.size, fun j hj => HG5.out.block j (by have := HB3.out.size; have := hs2; omega) (fun e => by injection e with e; have := HLO.out; omega)⟩)
      clear ho3 hb3 hg3 hat3 ho4 BX4 HM4 ROW4 HO5 HOB HG5
      go_wp2
      go_end0
      exact ⟨_, rfl, HWS.out, HB5.out⟩
end Go.Proofs.YtdgclpgjoanimaaDoor.Wa
