/- Rows of nodes whose inner rows are not the call's own: a node as an int and a slice as it is. -/
import Derived.Test.YtdgclpgjoanimaaTw
import Derived.Test.YtdgclpgjoanimaaSv
namespace Go.Proofs.Ytdgclpgjoanimaa.Rw
open Go.RowKit Go.ChangeShapes Go.WideShapes Go.Proofs.YtdgclpgjoanimaaW.PrintWords Go.Proofs.Ytdgclpgjoanimaa.Ba Go.Proofs.Ytdgclpgjoanimaa.Ma Go.Proofs.Ytdgclpgjoanimaa.Mb Go.Proofs.Ytdgclpgjoanimaa.Pu Go.Proofs.Ytdgclpgjoanimaa.Wa Go.Proofs.Ytdgclpgjoanimaa.To Go.Proofs.Ytdgclpgjoanimaa.Tr Go.Proofs.Ytdgclpgjoanimaa.Tp
set_option linter.unusedVariables false
abbrev Raw := Int × (Option Addr × Nat × Nat)
def zR : Raw := (0, (none, 0, 0))
def kR : Kd Raw := Kd.pair (Kd.int .i64) (Kd.scalar (fun s : Option Addr × Nat × Nat => Value.slice s.1 s.2.1 s.2.2) (fun _ => rfl))
def Raw.cs (r : Raw) : List Value := [.int .i64 r.1, .slice r.2.1 r.2.2.1 r.2.2.2]
theorem kR_K (w : World) (r : Raw) : kR.K w r r.cs := ⟨[_], [_], rfl, rfl, rfl⟩
theorem kR_M (w : World) (base : Nat) (ok : Nat → Prop) (r : Raw) : kR.M w base ok r r.cs := ⟨[_], [_], rfl, rfl, rfl⟩
theorem kR_open {w : World} {r : Raw} {cs : List Value} (h : kR.K w r cs) : cs = r.cs := by
  obtain ⟨_, _, rfl, rfl, rfl⟩ := h
  rfl
theorem kR_KM {w W : World} {base : Nat} {ok : Nat → Prop} {x : Raw} {cs : List Value} (h : kR.K w x cs) : kR.M W base ok x cs := h
theorem infoR : (Try.prog.info? 34).map (fun i => (i.zero, i.size, i.bytes)) = some (some zNd, kR.sz, 32) := by kernel_rfl
/-- A raw node stands for a node. -/
def RawOk (w : World) (r : Raw) (x : N2) : Prop := r.1 = x.kd ∧ r.2.2.1 = x.fs.length ∧ x.fs.length ≤ r.2.2.2 ∧ Fv w r.2.1 x.fs
theorem RawOk.old {w w' : World} {r : Raw} {x : N2} (h : RawOk w r x) (hb : ∀ k, k < w.heap.size → w'.heap[k]? = w.heap[k]?) : RawOk w' r x := ⟨h.1, h.2.1, h.2.2.1, h.2.2.2.old hb⟩
def RawsOk (w : World) (rl : List Raw) (ns : List N2) : Prop := rl.length = ns.length ∧ ∀ i, i < ns.length → RawOk w (rl.getD i zR) (ns.getD i zN)
theorem RawsOk.old {w w' : World} {rl : List Raw} {ns : List N2} (h : RawsOk w rl ns) (hb : ∀ k, k < w.heap.size → w'.heap[k]? = w.heap[k]?) : RawsOk w' rl ns := ⟨h.1, fun i hi => (h.2 i hi).old hb⟩
theorem getD_l {α : Type} (l m : List α) (d : α) (i : Nat) (h : i < l.length) : (l ++ m).getD i d = l.getD i d := by
  rw [List.getD_eq_getElem?_getD, List.getElem?_append_left h, ← List.getD_eq_getElem?_getD]
theorem getD_r {α : Type} (l : List α) (x d : α) {i : Nat} (h : i = l.length) : (l ++ [x]).getD i d = x := by
  subst h
  rw [List.getD_eq_getElem?_getD, List.getElem?_append_right (Nat.le_refl _), Nat.sub_self]
  rfl
theorem RawsOk.snoc {w : World} {rl : List Raw} {ns : List N2} {r : Raw} {x : N2} (h : RawsOk w rl ns) (hr : RawOk w r x) : RawsOk w (rl ++ [r]) (ns ++ [x]) := by
  refine ⟨by simp [h.1], fun i hi => ?_⟩
  rw [List.length_append] at hi
  simp only [List.length_cons, List.length_nil] at hi
  by_cases hlt : i < ns.length
  · rw [getD_l _ _ _ _ (by rw [h.1]; exact hlt), getD_l _ _ _ _ hlt]
    exact h.2 i hlt
  · obtain rfl : i = ns.length := by omega
    rw [getD_r _ _ _ rfl, getD_r _ _ _ h.1.symm]
    exact hr
theorem RawsOk.set {w : World} {rl : List Raw} {ns : List N2} {r : Raw} {x : N2} (h : RawsOk w rl ns) (a : Nat) (hr : RawOk w r x) : RawsOk w (rl.set a r) (ns.set a x) := by
  refine ⟨by simp [h.1], fun i hi => ?_⟩
  rw [List.length_set] at hi
  rw [List.getD_eq_getElem?_getD (l := rl.set a r), List.getElem?_set, List.getD_eq_getElem?_getD (l := ns.set a x), List.getElem?_set]
  by_cases e : a = i
  · subst e
    rw [if_pos rfl, if_pos rfl, if_pos (by rw [h.1]; exact hi), if_pos hi]
    exact hr
  · rw [if_neg e, if_neg e, ← List.getD_eq_getElem?_getD, ← List.getD_eq_getElem?_getD]
    exact h.2 i hi
theorem raw_of {w : World} {A : Option Addr} {ns : List N2} (h : Nv w A ns) (hn : ns.length ≤ 1000000) : ∃ rl, Kd.C kR w A ns.length rl ∧ RawsOk w rl ns := by
  have key : ∀ k, k ≤ ns.length → ∃ rl : List Raw, rl.length = k ∧ (∀ i, i < k → RawOk w (rl.getD i zR) (ns.getD i zN) ∧ ∃ ad, A = some ad ∧ w.cell? (ad.add (i * 2)) = some (.int .i64 (rl.getD i zR).1) ∧ w.cell? (ad.add (i * 2 + 1)) = some (.slice (rl.getD i zR).2.1 (rl.getD i zR).2.2.1 (rl.getD i zR).2.2.2)) := by
    intro k
    induction k with
    | zero => exact fun _ => ⟨[], rfl, fun i hi => absurd hi (Nat.not_lt_zero i)⟩
    | succ k ih =>
      intro hk
      obtain ⟨rl, hl, hr⟩ := ih (by omega)
      obtain ⟨ad, e, h0, A1, c1, h1, hc, hf⟩ := h k (by omega)
      refine ⟨rl ++ [((ns.getD k zN).kd, (A1, (ns.getD k zN).fs.length, c1))], by simp [hl], fun i hi => ?_⟩
      by_cases hlt : i < k
      · rw [getD_l _ _ _ _ (by omega)]
        exact hr i hlt
      · obtain rfl : i = k := by omega
        rw [getD_r _ _ _ hl.symm]
        refine ⟨⟨rfl, rfl, hc, hf⟩, ad, e, h0, ?_⟩
        rw [← add_field _ _ _ (by omega)] at h1
        exact h1
  obtain ⟨rl, hl, hr⟩ := key ns.length (Nat.le_refl _)
  refine ⟨rl, ⟨hl, by omega, fun h0 => ?_⟩, hl, fun i hi => (hr i hi).1⟩
  obtain ⟨_, ad, e, _⟩ := hr 0 h0
  refine ⟨ad, e, fun j p hj => ⟨p.cs, rfl, kR_K w p, fun i u hu => ?_⟩⟩
  obtain ⟨hjl, hp⟩ := List.getElem?_eq_some_iff.1 hj
  obtain ⟨_, ad', e', c0, c1⟩ := hr j (by omega)
  rw [e] at e'
  injection e' with e'
  subst e'
  have hg : rl.getD j zR = p := by rw [List.getD_eq_getElem?_getD, hj]; rfl
  rw [hg] at c0 c1
  have hi2 : i = 0 ∨ i = 1 := by
    have := (List.getElem?_eq_some_iff.1 hu).1
    simp [Raw.cs] at this
    omega
  rcases hi2 with rfl | rfl
  · obtain rfl : Value.int .i64 p.1 = u := by simpa [Raw.cs] using hu
    exact c0
  · obtain rfl : Value.slice p.2.1 p.2.2.1 p.2.2.2 = u := by simpa [Raw.cs] using hu
    exact c1
theorem nv_of {w : World} {A : Option Addr} {ns : List N2} {rl : List Raw} (h : Kd.C kR w A rl.length rl) (hr : RawsOk w rl ns) : Nv w A ns := by
  intro i hi
  obtain ⟨ad, c, e, _, hK, hc0⟩ := Kd.C_get h zR (i : Int) (by omega) (by rw [hr.1]; omega)
  rw [Int.toNat_natCast] at hc0 hK
  have hc : ∀ j u, c[j]? = some u → w.cell? (ad.add (i * 2 + j)) = some u := hc0
  obtain rfl := kR_open hK
  obtain ⟨r0, r1, r2, r3⟩ := hr.2 i hi
  refine ⟨ad, e, ?_, (rl.getD i zR).2.1, (rl.getD i zR).2.2.2, ?_, r2, r3⟩
  · rw [← r0]; exact hc 0 _ rfl
  · rw [← r1, ← add_field _ _ _ (by omega)]; exact hc 1 _ rfl
/-- A node that is handed. -/
def NdV (w : World) (v : Value) (x : N2) : Prop := ∃ A c, v = .agg #[.int .i64 x.kd, .slice A x.fs.length c] ∧ x.fs.length ≤ c ∧ Fv w A x.fs
theorem ndv_of {w w' : World} {r : Reach} {base : Nat} {v : Value} {x : N2} (h : Value.okWide Try.prog w r base 34 v) (hk : k2.K w' x v.cells.toList) : NdV w' v x := by
  obtain ⟨cs, rfl, _⟩ := okWide_struct Try.underlying34 h
  obtain ⟨A, c, e, hl, hC⟩ := k2_open hk
  have : cs = #[.int .i64 x.kd, .slice A x.fs.length c] := by
    have e' : cs.toList = [.int .i64 x.kd, .slice A x.fs.length c] := e
    rw [← e']
  exact ⟨A, c, by rw [this], hl, fd_C hC (Nat.le_refl _)⟩
end Go.Proofs.Ytdgclpgjoanimaa.Rw
