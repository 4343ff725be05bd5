/-
  Two graphs side by side: in plain lists, and as rows; a value as far as its kind gives a meaning.
-/
import Derived.Test.YtdgclpgjoanimaaDoorTp
import Derived.Test.YtdgclpgjoanimaaDoorSv
import Derived.Test.YtdgclpgjoanimaaDoorTi
namespace Go.Proofs.YtdgclpgjoanimaaDoor.Sd
open Go.RowKit Go.ChangeShapes Go.WideShapes Go.Proofs.YtdgclpgjoanimaaDoorW.PrintWords Go.Proofs.YtdgclpgjoanimaaDoor.Ba Go.Proofs.YtdgclpgjoanimaaDoor.Ma Go.Proofs.YtdgclpgjoanimaaDoor.Mb Go.Proofs.YtdgclpgjoanimaaDoor.Pu Go.Proofs.YtdgclpgjoanimaaDoor.Wa Go.Proofs.YtdgclpgjoanimaaDoor.To Go.Proofs.YtdgclpgjoanimaaDoor.Tr Go.Proofs.YtdgclpgjoanimaaDoor.Pt Go.Proofs.YtdgclpgjoanimaaDoor.Sm Go.Proofs.YtdgclpgjoanimaaDoor.Eq Go.Proofs.YtdgclpgjoanimaaDoor.Tp
set_option linter.unusedVariables false
set_option linter.unusedSimpArgs false
set_option maxRecDepth 100000
theorem blt {w : World} {k : Nat} {o : Obj} (h : w.heap[k]? = some o) : k < w.heap.size := (Array.getElem?_eq_some_iff.1 h).1
def extG (g : G3) (ys : List N2) : G3 := ⟨g.ns ++ ys, g.rs, g.ws⟩
theorem nd_ext {g : G3} {ys : List N2} {x : Int} (h : isB g.ns.length x = true) : nd (extG g ys) x = nd g x := by
  have := isB_iff.1 h
  unfold nd extG
  rw [List.getD_eq_getElem?_getD, List.getElem?_append_left (by omega), ← List.getD_eq_getElem?_getD]
theorem ext_trim {g : G3} (hm : mayG g = true) {ys : List N2} (hj : mayG (extG g ys) = true) : trimL (extG g ys) = trimL g := by
  have s : Sim g (extG g ys) (fun x => x) (fun x => isB g.ns.length x = true) (fun v => v) (fun x => x) := by
    refine ⟨fun x y _ _ e => e, fun x hx => hx, fun x hx => ?_, fun x hx => by rw [nd_ext hx], fun x hx => by rw [nd_ext hx, List.map_id'], fun x hx v hv => ⟨fun h => ⟨h, rfl⟩, fun h => ⟨h, rfl, rfl⟩, fun h => ⟨h, rfl, may_nd hm hx v hv h⟩, fun h1 h2 h3 => ⟨h1, h2, h3⟩⟩, ?_, fun x hx h => ⟨h, rfl⟩, fun x hx h => ⟨root_neg hm (.inl hx) h, rfl⟩⟩
    · have := isB_iff.1 hx
      rw [isB_iff]
      show 0 ≤ x ∧ x < ((g.ns ++ ys).length : Int)
      rw [List.length_append]
      omega
    · show g.rs = g.rs.map (fun x => x)
      rw [List.map_id']
  rw [Tp.trim_of hm, Tp.trim_of hj]
  refine trim_sim s (σ := fun x => x) (by show g.ws = g.ws.map (fun x => x); rw [List.map_id']) fun x hx => weak_sim s ?_
  cases h : isB g.ns.length x
  · exact .inr ⟨root_neg hm (.inr hx) h, rfl⟩
  · exact .inl ⟨rfl, rfl⟩
def sval (n : Nat) (v : V5) : V5 := if v.kd = 3 then ⟨3, 0, 0, 0, v.ref + (n : Int)⟩ else plainV v
def sideN (n : Nat) (x : N2) : N2 := ⟨x.kd, x.fs.map (sval n)⟩
def sideG (g h : G3) : G3 := extG g (h.ns.map (sideN g.ns.length))
theorem side_may {g h : G3} (hg : mayG g = true) (hh : mayG h = true) (hl : g.ns.length + h.ns.length ≤ 4096) : mayG (sideG g h) = true := by
  have hlen : (sideG g h).ns.length = g.ns.length + h.ns.length := by
    show (g.ns ++ h.ns.map _).length = _
    rw [List.length_append, List.length_map]
  have hr := may_roots hg
  have hg2 := hg
  have hh2 := hh
  unfold mayG at hg2 hh2 ⊢
  rw [hlen]
  simp only [Bool.and_eq_true, decide_eq_true_eq, List.all_eq_true] at hg2 hh2 ⊢
  refine ⟨⟨hl, fun x hx => ?_⟩, fun x hx v hv => ?_⟩
  · have h1 := hg2.1.2 x hx
    unfold rootB at h1 ⊢
    simp only [Bool.or_eq_true] at h1 ⊢
    rcases h1 with h1 | h1
    · exact .inl h1
    · refine .inr ?_
      rw [isB_iff] at h1 ⊢
      omega
  · rcases List.mem_append.1 (show x ∈ g.ns ++ h.ns.map _ from hx) with hx | hx
    · have h1 := hg2.2 x hx v hv
      unfold fieldB at h1 ⊢
      simp only [Bool.and_eq_true, Bool.or_eq_true] at h1 ⊢
      refine ⟨h1.1, h1.2.imp id fun h2 => ?_⟩
      rw [isB_iff] at h2 ⊢
      omega
    · obtain ⟨y, hy, rfl⟩ := List.mem_map.1 hx
      obtain ⟨u, hu, rfl⟩ := List.mem_map.1 (show v ∈ y.fs.map (sval g.ns.length) from hv)
      have h1 := hh2.2 y hy u hu
      unfold fieldB at h1 ⊢
      simp only [Bool.and_eq_true, Bool.or_eq_true] at h1
      unfold sval plainV
      by_cases e3 : u.kd = 3
      · rw [if_pos e3]
        have h2 : isB h.ns.length u.ref = true := by
          rcases h1.2 with h2 | h2
          · rw [e3] at h2; exact absurd h2 (by decide)
          · exact h2
        rw [isB_iff] at h2
        have h3 : isB (g.ns.length + h.ns.length) (u.ref + (g.ns.length : Int)) = true := by rw [isB_iff]; omega
        simp only [h3]
        rfl
      · rw [if_neg e3]
        by_cases e1 : u.kd = 1
        · rw [if_pos e1]; rfl
        · rw [if_neg e1]
          by_cases e2 : u.kd = 2
          · rw [if_pos e2]; rfl
          · rw [if_neg e2, if_neg e3]
            have e4 : (u.kd == 3) = false := by rw [beq_eq_false_iff_ne]; exact e3
            simp only [e4, h1.1.1, h1.1.2]
            rfl
theorem side_trim {g h : G3} (hg : mayG g = true) (hh : mayG h = true) (hl : g.ns.length + h.ns.length ≤ 4096) : trimL (sideG g h) = trimL g := ext_trim hg (side_may hg hh hl)
theorem side_sz {g h : G3} (zg : Sz g) (zh : Sz h) : Sz (sideG g h) := by
  refine ⟨zg.r, zg.s, fun x hx => ?_⟩
  rcases List.mem_append.1 (show x ∈ g.ns ++ h.ns.map _ from hx) with hx | hx
  · exact zg.f x hx
  · obtain ⟨y, hy, rfl⟩ := List.mem_map.1 hx
    show (y.fs.map _).length ≤ 1000
    rw [List.length_map]
    exact zh.f y hy
def PlainPost (v : V5) (w : World) (e : Ending) (w' : World) : Prop := e = .returned (agg5 (plainV v)) ∧ Below w.heap.size w w'
set_option maxHeartbeats 4000000 in
theorem plain_any (v : V5) (w : World) : Calls Tryd.prog 12 #[agg5 v] w (PlainPost v w) := by
  obtain ⟨f0, f1, f2, f3, f4⟩ := v
  unfold agg5
  dsimp only
  have hz : ∀ w, (zeroValue 36).run Tryd.prog w = .ok (.agg #[.int .i64 0, .int .i64 0, .int .u64 0, .int .u64 0, .int .i64 0]) w := fun w => by kernel_rfl
  by_cases e1 : f0 = 1
  · subst e1
    have HT : Hid (plainV ⟨1, f1, f2, f3, f4⟩ = ⟨1, f1, 0, 0, 0⟩) := Lib.hid rfl
    go_enter Tryd.func12, Tryd.ntmps12
    go_wp2
    exact bodyPost_ret (v := agg5 ⟨1, f1, 0, 0, 0⟩) (by simp [results, Tryd.results12, go_sem, agg5]) rfl ⟨by rw [HT.out], (((Below.refl _ _).alloc (Nat.le_refl _) _).alloc (by simp) _)⟩
  · by_cases e2 : f0 = 2
    · subst e2
      have HT : Hid (plainV ⟨2, f1, f2, f3, f4⟩ = ⟨2, 0, f2, f3, 0⟩) := Lib.hid rfl
      go_enter Tryd.func12, Tryd.ntmps12
      go_wp2
      exact bodyPost_ret (v := agg5 ⟨2, 0, f2, f3, 0⟩) (by simp [results, Tryd.results12, go_sem, agg5]) rfl ⟨by rw [HT.out], (((Below.refl _ _).alloc (Nat.le_refl _) _).alloc (by simp) _)⟩
    · by_cases e3 : f0 = 3
      · subst e3
        have HT : Hid (plainV ⟨3, f1, f2, f3, f4⟩ = ⟨3, 0, 0, 0, f4⟩) := Lib.hid rfl
        go_enter Tryd.func12, Tryd.ntmps12
        go_wp2
        exact bodyPost_ret (v := agg5 ⟨3, 0, 0, 0, f4⟩) (by simp [results, Tryd.results12, go_sem, agg5]) rfl ⟨by rw [HT.out], (((Below.refl _ _).alloc (Nat.le_refl _) _).alloc (by simp) _)⟩
      · have HT : Hid (plainV ⟨f0, f1, f2, f3, f4⟩ = ⟨f0, 0, 0, 0, 0⟩) := Lib.hid (by unfold plainV; dsimp only; rw [if_neg e1, if_neg e2, if_neg e3])
        have b1 : (f0 == 1) = false := by rw [beq_eq_false_iff_ne]; exact e1
        have b2 : (f0 == 2) = false := by rw [beq_eq_false_iff_ne]; exact e2
        have b3 : (f0 == 3) = false := by rw [beq_eq_false_iff_ne]; exact e3
        clear e1 e2 e3
        go_enter Tryd.func12, Tryd.ntmps12
        go_wp2
        exact bodyPost_ret (v := agg5 ⟨f0, 0, 0, 0, 0⟩) (by simp [results, Tryd.results12, go_sem, agg5]) rfl ⟨by rw [HT.out], (((Below.refl _ _).alloc (Nat.le_refl _) _).alloc (by simp) _)⟩
theorem box5_set {w : World} {g : Nat} {x : V5} (h : Bx5 w g x) (y : V5) : ∃ w9, ((((w.setCell ⟨g, 0, none⟩ (.int .i64 y.kd)).setCell ⟨g, 1, none⟩ (.int .i64 y.n)).setCell ⟨g, 2, none⟩ (.int .u64 y.re)).setCell ⟨g, 3, none⟩ (.int .u64 y.im)).setCell ⟨g, 4, none⟩ (.int .i64 y.ref) = w9 ∧ Bx5 w9 g y ∧ w.grownBy w9 (some g) := by
  refine ⟨_, rfl, ?_, grown_trans (grown_trans (grown_trans (grown_trans (grown_set w g 0 _) (grown_set _ g 1 _)) (grown_set _ g 2 _)) (grown_set _ g 3 _)) (grown_set _ g 4 _)⟩
  exact blk_set (blk_set (blk_set (blk_set (blk_set h 0 (.int .i64 y.kd)) 1 (.int .i64 y.n)) 2 (.int .u64 y.re)) 3 (.int .u64 y.im)) 4 (.int .i64 y.ref)
abbrev Raw := Int × (Option Addr × Nat × Nat)
def zR : Raw := (0, (none, 0, 0))
def kR : Kd Raw := Kd.pair (Kd.int .i64) (Kd.scalar (fun s : Option Addr × Nat × Nat => Value.slice s.1 s.2.1 s.2.2) (fun _ => rfl))
def Raw.cs (r : Raw) : List Value := [.int .i64 r.1, .slice r.2.1 r.2.2.1 r.2.2.2]
theorem kR_K (w : World) (r : Raw) : kR.K w r r.cs := ⟨[_], [_], rfl, rfl, rfl⟩
theorem kR_M (w : World) (base : Nat) (ok : Nat → Prop) (r : Raw) : kR.M w base ok r r.cs := ⟨[_], [_], rfl, rfl, rfl⟩
theorem kR_open {w : World} {r : Raw} {cs : List Value} (h : kR.K w r cs) : cs = r.cs := by
  obtain ⟨_, _, rfl, rfl, rfl⟩ := h
  rfl
theorem kR_KM {w W : World} {base : Nat} {ok : Nat → Prop} {x : Raw} {cs : List Value} (h : kR.K w x cs) : kR.M W base ok x cs := h
theorem infoR : (Tryd.prog.info? 33).map (fun i => (i.zero, i.size, i.bytes)) = some (some zNd, kR.sz, 32) := by kernel_rfl
/-- A raw node stands for a node. -/
def RawOk (w : World) (r : Raw) (x : N2) : Prop := r.1 = x.kd ∧ r.2.2.1 = x.fs.length ∧ x.fs.length ≤ r.2.2.2 ∧ Fv w r.2.1 x.fs
theorem RawOk.old {w w' : World} {r : Raw} {x : N2} (h : RawOk w r x) (hb : ∀ k, k < w.heap.size → w'.heap[k]? = w.heap[k]?) : RawOk w' r x := ⟨h.1, h.2.1, h.2.2.1, h.2.2.2.old hb⟩
def RawsOk (w : World) (rl : List Raw) (ns : List N2) : Prop := rl.length = ns.length ∧ ∀ i, i < ns.length → RawOk w (rl.getD i zR) (ns.getD i zN)
theorem RawsOk.old {w w' : World} {rl : List Raw} {ns : List N2} (h : RawsOk w rl ns) (hb : ∀ k, k < w.heap.size → w'.heap[k]? = w.heap[k]?) : RawsOk w' rl ns := ⟨h.1, fun i hi => (h.2 i hi).old hb⟩
theorem getD_l {α : Type} (l m : List α) (d : α) (i : Nat) (h : i < l.length) : (l ++ m).getD i d = l.getD i d := by
  rw [List.getD_eq_getElem?_getD, List.getElem?_append_left h, ← List.getD_eq_getElem?_getD]
theorem getD_r {α : Type} (l : List α) (x d : α) {i : Nat} (h : i = l.length) : (l ++ [x]).getD i d = x := by
  subst h
  rw [List.getD_eq_getElem?_getD, List.getElem?_append_right (Nat.le_refl _), Nat.sub_self]
  rfl
theorem RawsOk.snoc {w : World} {rl : List Raw} {ns : List N2} {r : Raw} {x : N2} (h : RawsOk w rl ns) (hr : RawOk w r x) : RawsOk w (rl ++ [r]) (ns ++ [x]) := by
  refine ⟨by simp [h.1], fun i hi => ?_⟩
  rw [List.length_append] at hi
  simp only [List.length_cons, List.length_nil] at hi
  by_cases hlt : i < ns.length
  · rw [getD_l _ _ _ _ (by rw [h.1]; exact hlt), getD_l _ _ _ _ hlt]
    exact h.2 i hlt
  · obtain rfl : i = ns.length := by omega
    rw [getD_r _ _ _ rfl, getD_r _ _ _ h.1.symm]
    exact hr
theorem RawsOk.set {w : World} {rl : List Raw} {ns : List N2} {r : Raw} {x : N2} (h : RawsOk w rl ns) (a : Nat) (hr : RawOk w r x) : RawsOk w (rl.set a r) (ns.set a x) := by
  refine ⟨by simp [h.1], fun i hi => ?_⟩
  rw [List.length_set] at hi
  rw [List.getD_eq_getElem?_getD (l := rl.set a r), List.getElem?_set, List.getD_eq_getElem?_getD (l := ns.set a x), List.getElem?_set]
  by_cases e : a = i
  · subst e
    rw [if_pos rfl, if_pos rfl, if_pos (by rw [h.1]; exact hi), if_pos hi]
    exact hr
  · rw [if_neg e, if_neg e, ← List.getD_eq_getElem?_getD, ← List.getD_eq_getElem?_getD]
    exact h.2 i hi
theorem raw_of {w : World} {A : Option Addr} {ns : List N2} (h : Nv w A ns) (hn : ns.length ≤ 1000000) : ∃ rl, Kd.C kR w A ns.length rl ∧ RawsOk w rl ns := by
  have key : ∀ k, k ≤ ns.length → ∃ rl : List Raw, rl.length = k ∧ (∀ i, i < k → RawOk w (rl.getD i zR) (ns.getD i zN) ∧ ∃ ad, A = some ad ∧ w.cell? (ad.add (i * 2)) = some (.int .i64 (rl.getD i zR).1) ∧ w.cell? (ad.add (i * 2 + 1)) = some (.slice (rl.getD i zR).2.1 (rl.getD i zR).2.2.1 (rl.getD i zR).2.2.2)) := by
    intro k
    induction k with
    | zero => exact fun _ => ⟨[], rfl, fun i hi => absurd hi (Nat.not_lt_zero i)⟩
    | succ k ih =>
      intro hk
      obtain ⟨rl, hl, hr⟩ := ih (by omega)
      obtain ⟨ad, e, h0, A1, c1, h1, hc, hf⟩ := h k (by omega)
      refine ⟨rl ++ [((ns.getD k zN).kd, (A1, (ns.getD k zN).fs.length, c1))], by simp [hl], fun i hi => ?_⟩
      by_cases hlt : i < k
      · rw [getD_l _ _ _ _ (by omega)]
        exact hr i hlt
      · obtain rfl : i = k := by omega
        rw [getD_r _ _ _ hl.symm]
        refine ⟨⟨rfl, rfl, hc, hf⟩, ad, e, h0, ?_⟩
        rw [← add_field _ _ _ (by omega)] at h1
        exact h1
  obtain ⟨rl, hl, hr⟩ := key ns.length (Nat.le_refl _)
  refine ⟨rl, ⟨hl, by omega, fun h0 => ?_⟩, hl, fun i hi => (hr i hi).1⟩
  obtain ⟨_, ad, e, _⟩ := hr 0 h0
  refine ⟨ad, e, fun j p hj => ⟨p.cs, rfl, kR_K w p, fun i u hu => ?_⟩⟩
  obtain ⟨hjl, hp⟩ := List.getElem?_eq_some_iff.1 hj
  obtain ⟨_, ad', e', c0, c1⟩ := hr j (by omega)
  rw [e] at e'
  injection e' with e'
  subst e'
  have hg : rl.getD j zR = p := by rw [List.getD_eq_getElem?_getD, hj]; rfl
  rw [hg] at c0 c1
  have hi2 : i = 0 ∨ i = 1 := by
    have := (List.getElem?_eq_some_iff.1 hu).1
    simp [Raw.cs] at this
    omega
  rcases hi2 with rfl | rfl
  · obtain rfl : Value.int .i64 p.1 = u := by simpa [Raw.cs] using hu
    exact c0
  · obtain rfl : Value.slice p.2.1 p.2.2.1 p.2.2.2 = u := by simpa [Raw.cs] using hu
    exact c1
theorem nv_of {w : World} {A : Option Addr} {ns : List N2} {rl : List Raw} (h : Kd.C kR w A rl.length rl) (hr : RawsOk w rl ns) : Nv w A ns := by
  intro i hi
  obtain ⟨ad, c, e, _, hK, hc0⟩ := Kd.C_get h zR (i : Int) (by omega) (by rw [hr.1]; omega)
  rw [Int.toNat_natCast] at hc0 hK
  have hc : ∀ j u, c[j]? = some u → w.cell? (ad.add (i * 2 + j)) = some u := hc0
  obtain rfl := kR_open hK
  obtain ⟨r0, r1, r2, r3⟩ := hr.2 i hi
  refine ⟨ad, e, ?_, (rl.getD i zR).2.1, (rl.getD i zR).2.2.2, ?_, r2, r3⟩
  · rw [← r0]; exact hc 0 _ rfl
  · rw [← r1, ← add_field _ _ _ (by omega)]; exact hc 1 _ rfl
theorem rows_gat {W wF : World} {AR AW A : Option Addr} {cR cW c base : Nat} {rl : List Raw} {g j : G3} {AN : Option Addr} {cN : Nat} (hG : GAt W (.agg #[.slice AN g.ns.length cN, .slice AR g.rs.length cR, .slice AW g.ws.length cW]) g) (hro : RawsOk wF rl j.ns) (hb : Below W.heap.size W wF)
    (hr : kR.R 33 wF base (fun _ => True) (.slice A rl.length c) rl) (e1 : j.rs = g.rs) (e2 : j.ws = g.ws) : GAt wF (.agg #[.slice A rl.length c, .slice AR g.rs.length cR, .slice AW g.ws.length cW]) j := by
  obtain ⟨AN', cN', AR', cR', AW', cW', e, h1, h2, h3, a, b, d⟩ := hG
  injection e with e
  have e' : [Value.slice AN g.ns.length cN, .slice AR g.rs.length cR, .slice AW g.ws.length cW] = [.slice AN' g.ns.length cN', .slice AR' g.rs.length cR', .slice AW' g.ws.length cW'] := congrArg Array.toList e
  simp only [List.cons.injEq, Value.slice.injEq, and_true, true_and] at e'
  obtain ⟨⟨rfl, rfl⟩, ⟨rfl, rfl⟩, rfl, rfl⟩ := e'
  obtain ⟨_, hc, hC⟩ := Kd.R_reads' hr
  refine ⟨A, c, AR, cR, AW, cW, by rw [← hro.1, e1, e2], by rw [← hro.1]; exact hc, by rw [e1]; exact h2, by rw [e2]; exact h3, nv_of hC hro, ?_, ?_⟩
  · rw [e1]; exact b.below hb.block
  · rw [e2]; exact d.below hb.block
theorem rows_gat2 {W wF : World} {AR AW A AN : Option Addr} {cR cW c cN base nN nR nW : Nat} {rl : List Raw} {g j : G3} (hG : GAt W (.agg #[.slice AN nN cN, .slice AR nR cR, .slice AW nW cW]) g) (hro : RawsOk wF rl j.ns) (hb : Below W.heap.size W wF)
    (hr : kR.R 33 wF base (fun _ => True) (.slice A rl.length c) rl) (e1 : j.rs = g.rs) (e2 : j.ws = g.ws) : GAt wF (.agg #[.slice A rl.length c, .slice AR nR cR, .slice AW nW cW]) j := by
  obtain ⟨AN', cN', AR', cR', AW', cW', e, _⟩ := id hG
  injection e with e
  have e' : [Value.slice AN nN cN, .slice AR nR cR, .slice AW nW cW] = [.slice AN' g.ns.length cN', .slice AR' g.rs.length cR', .slice AW' g.ws.length cW'] := congrArg Array.toList e
  simp only [List.cons.injEq, Value.slice.injEq, and_true, true_and] at e'
  obtain ⟨⟨rfl, rfl, rfl⟩, ⟨rfl, rfl, rfl⟩, rfl, rfl, rfl⟩ := e'
  exact rows_gat hG hro hb hr e1 e2

theorem kR_E : ∀ q, q ∈ 33 :: kR.E → q ≠ 25 := by
  intro q hq
  have : q = 33 := by simpa [kR, Kd.pair, Kd.int, Kd.scalar] using hq
  rw [this]; decide
/-- All is kept but for the rows of nodes and the graphs' boxes. -/
def KeepT (w W : World) : Prop := ∀ (b : Nat) (cs : Array Value) (t : TypeId), t ≠ 33 → t ≠ 25 → w.heap[b]? = some (.cells cs t (0, 0)) → W.heap[b]? = some (.cells cs t (0, 0))
theorem KeepT.trans {a b c : World} (h : KeepT a b) (k : KeepT b c) : KeepT a c := fun q cs t h1 h2 hq => k q cs t h1 h2 (h q cs t h1 h2 hq)
theorem keep_below {w W : World} (h : Below w.heap.size w W) : KeepT w W := fun b cs t _ _ hb => (h.block b (blt hb)).trans hb
theorem keep_box {w : World} {g : Nat} {cs : Array Value} (h : w.heap[g]? = some (.cells cs 25 (0, 0))) (k : Nat) (v : Value) : KeepT w (w.setCell ⟨g, k, none⟩ v) := fun b cs' t _ h2 hb =>
  (Below.heap_setCell w _ v b (fun e => h2 (by
    have e' : b = g := e
    rw [e', h] at hb
    injection hb with hb
    injection hb with _ hb
    exact hb.symm))).trans hb
theorem keep_row {w W : World} {base : Nat} {v : Value} {xs : List Raw} (hR : kR.R 33 w base (fun _ => True) v xs) (hg : w.grownBy W v.ownBlock) : KeepT w W := fun b cs t h1 _ hb =>
  (hg.block b (blt hb) (fun e => h1 (by
    obtain ⟨cells, hc⟩ := Kd.R_typed hR b e.symm
    rw [hc] at hb
    injection hb with hb
    injection hb with _ hb
    exact hb.symm))).trans hb
theorem fv_keep {w : World} {base : Nat} {A : Option Addr} {c : Nat} {l : List V5} (h : R5 w base (.slice A l.length c) l) : ∀ W, KeepT w W → Fv W A l := by
  intro W hW
  have h2 := Kd.R_move (w1 := W) (Kd.R_bound h) (fun k hk => by
    obtain ⟨_, _, _, q, hq, cells, hc⟩ := hk
    have : q = 36 := by
      have : q ∈ ([36] : List Nat) := hq
      simpa using this
    subst this
    rw [hW k cells 36 (by decide) (by decide) hc, hc])
  obtain ⟨_, _, hC⟩ := Kd.R_reads' h2
  exact fd_C hC (Nat.le_refl _)
end Go.Proofs.YtdgclpgjoanimaaDoor.Sd
