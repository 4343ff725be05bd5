/- Laws for the walk of GraphAlike: graphs in boxes, raw rows. -/
import Derived.Test.YtdgclpgjoanimaaRw
import Derived.Deep.RegionHeld3
import Derived.Deep.DeepMust
namespace Go.Proofs.Ytdgclpgjoanimaa.Rx
open Go.RowKit Go.ChangeShapes Go.WideShapes Go.Proofs.YtdgclpgjoanimaaW.PrintWords
set_option linter.unusedVariables false
set_option linter.unusedSimpArgs false
open Go.Proofs.Ytdgclpgjoanimaa.Ba Go.Proofs.Ytdgclpgjoanimaa.Ma Go.Proofs.Ytdgclpgjoanimaa.Mb Go.Proofs.Ytdgclpgjoanimaa.Pu Go.Proofs.Ytdgclpgjoanimaa.Wa Go.Proofs.Ytdgclpgjoanimaa.To Go.Proofs.Ytdgclpgjoanimaa.Tr Go.Proofs.Ytdgclpgjoanimaa.Tp Go.Proofs.Ytdgclpgjoanimaa.Eq Go.Proofs.Ytdgclpgjoanimaa.Rw
/-- A graph in a box. -/
structure GB (W : World) (B : Nat) (s0 s1 s2 : Value) (g : G3) : Prop where
  x : W.heap[B]? = some (.cells #[s0, s1, s2] 25 (0, 0))
  g : GAt W (.agg #[s0, s1, s2]) g
theorem GB.later {W W' : World} {B : Nat} {s0 s1 s2 : Value} {g : G3} (h : GB W B s0 s1 s2 g) (hb : Below W.heap.size W W') : GB W' B s0 s1 s2 g := ⟨(hb.block _ (blt h.x)).trans h.x, h.g.below hb⟩
theorem GB.cells {W : World} {B : Nat} {s0 s1 s2 : Value} {g : G3} (h : GB W B s0 s1 s2 g) : W.cell? ⟨B, 0, none⟩ = some s0 ∧ W.cell? ⟨B, 1, none⟩ = some s1 ∧ W.cell? ⟨B, 2, none⟩ = some s2 := Bx3_one h.x
theorem sz_turn {g : G3} {b : Nat} (hz : Sz g) : Sz (turnG g b) := by
  refine ⟨?_, ?_, fun x hx => ?_⟩
  · show (g.rs.map _).length ≤ 1000
    rw [List.length_map]; exact hz.r
  · show (g.ws.map _).length ≤ 1000
    rw [List.length_map]; exact hz.s
  · obtain ⟨j, hj, rfl⟩ := List.mem_map.1 (show x ∈ (List.range g.ns.length).map _ from hx)
    rw [List.mem_range] at hj
    show ((nd g _).fs.map _).length ≤ 1000
    rw [List.length_map]
    have : (tin g.ns.length b (j : Int)).toNat < g.ns.length ∨ g.ns.length ≤ (tin g.ns.length b (j : Int)).toNat := by omega
    unfold nd
    rcases this with h | h
    · exact hz.f _ (mem_getD h)
    · rw [List.getD_eq_getElem?_getD, List.getElem?_eq_none h]; simp [zN]
theorem trim_kd {g : G3} {W : List Int} : ∀ x ∈ (trimW g W).ns, ∀ v ∈ x.fs, Sv.kd03 v := by
  intro x hx v hv
  obtain ⟨y, hy, rfl⟩ := List.mem_map.1 (show x ∈ W.map (nodeT g (placeL g.ns.length W)) from hx)
  obtain ⟨u, hu, rfl⟩ := List.mem_map.1 (show v ∈ (nd g y).fs.map (toldP (placeL g.ns.length W)) from hv)
  unfold toldP Sv.kd03
  split
  · exact .inr (.inl rfl)
  · split
    · exact .inr (.inr (.inl rfl))
    · split
      · exact .inr (.inr (.inr rfl))
      · exact .inl rfl
theorem two_app {W w20 w21 : World} {v20 : Value} (hg20 : W.grownBy w20 (Value.slice none 0 0).ownBlock) (hat20 : v20.ownBlock = (Value.slice none 0 0).ownBlock ∨ ∃ b, v20.ownBlock = some b ∧ W.heap.size ≤ b) (hg21 : w20.grownBy w21 v20.ownBlock) : Below W.heap.size W w21 := by
  refine ⟨hg21.os.trans hg20.os, hg21.tape.trans hg20.tape, hg21.output.trans hg20.output, Nat.le_trans hg20.size hg21.size, fun k hk => ?_⟩
  refine (hg21.block k (Nat.lt_of_lt_of_le hk hg20.size) (fun e => ?_)).trans (hg20.block k hk (by simp [Value.ownBlock]))
  rcases hat20 with h | ⟨b, h, h2⟩
  · rw [h] at e
    simp [Value.ownBlock] at e
  · rw [h] at e
    injection e with e
    omega
theorem one_app {W w20 : World} (hg20 : W.grownBy w20 (Value.slice none 0 0).ownBlock) : Below W.heap.size W w20 :=
  ⟨hg20.os, hg20.tape, hg20.output, hg20.size, fun k hk => hg20.block k hk (by simp [Value.ownBlock])⟩
theorem raw_one {w : World} {g : Nat} {r : Raw} (h : w.heap[g]? = some (.cells #[.int .i64 r.1, .slice r.2.1 r.2.2.1 r.2.2.2] 34 (0, 0))) : Kd.C kR w (some ⟨g, 0, none⟩) 1 [r] := by
  refine ⟨rfl, by omega, fun _ => ⟨_, rfl, fun j p hj => ?_⟩⟩
  have hj0 : j = 0 := by
    have := (List.getElem?_eq_some_iff.1 hj).1
    simp at this
    omega
  subst hj0
  obtain rfl : r = p := by simpa using hj
  refine ⟨r.cs, rfl, kR_K w r, fun i u hu => ?_⟩
  obtain ⟨c0, c1⟩ := two_cells h
  have hi2 : i = 0 ∨ i = 1 := by
    have := (List.getElem?_eq_some_iff.1 hu).1
    simp [Raw.cs] at this
    omega
  rcases hi2 with rfl | rfl
  · obtain rfl : Value.int .i64 r.1 = u := by simpa [Raw.cs] using hu
    exact c0
  · obtain rfl : Value.slice r.2.1 r.2.2.1 r.2.2.2 = u := by simpa [Raw.cs] using hu
    exact c1
theorem cell_alloc {w : World} {a : Addr} {v : Value} (o : Obj) (h : w.cell? a = some v) : (w.alloc o).cell? a = some v := cell_old h ((Below.refl w.heap.size w).alloc (Nat.le_refl _) o).block
theorem cell_drew {w : World} {a : Addr} {v : Value} (h : w.cell? a = some v) : w.drew.cell? a = some v := h
theorem heap_alloc_lt {w : World} {k : Nat} {o' : Obj} (o : Obj) (h : w.heap[k]? = some o') : (w.alloc o).heap[k]? = some o' := (((Below.refl w.heap.size w).alloc (Nat.le_refl _) o).block k (blt h)).trans h
theorem later_alloc {w0 w : World} (o : Obj) (h : Below w0.heap.size w0 w) : Below w0.heap.size w0 (w.alloc o) := h.alloc h.size o
theorem heap_drew {w : World} {k : Nat} {o' : Obj} (h : w.heap[k]? = some o') : w.drew.heap[k]? = some o' := h
theorem modn (m : Int) (n : Nat) (h0 : 0 < n) (h1 : n ≤ 1000000) : ∃ d : Nat, d < n ∧ wrap64 ((IntKind.u64.wrap m).tmod (n : Int)) = (d : Int) := by
  have h0' : 0 ≤ m % 18446744073709551616 := Int.emod_nonneg _ (by omega)
  rw [IntKind.wrap_u64, Int.tmod_eq_emod_of_nonneg h0']
  have h2 := Int.emod_nonneg (m % 18446744073709551616) (b := (n : Int)) (by omega)
  have h3 := Int.emod_lt_of_pos (m % 18446744073709551616) (b := (n : Int)) (by omega)
  refine ⟨(m % 18446744073709551616 % (n : Int)).toNat, by omega, ?_⟩
  unfold wrap64
  omega
theorem rows_app {ops : Array Oper} {o : Oper} {a : Act} {W w0 : World} {Q : Exit → Act → World → Prop} {Kc : Act → World → Prop} (hw : Region.wanted o (yielded ops a.tmps) = true) (s x : Operand)
    (ho : o.op = .call { callee := .builtin .append, args := #[s, x], argTypes := #[22, 22] }) (v : Value) (xs ys : List Raw) (A : Option Addr) (m c : Nat) (hs : a.eval s = v) (hx : a.eval x = .slice A m c) (hm : m = ys.length)
    (HO : kR.R 34 W w0.heap.size (fun _ => True) v xs) (HR : Kd.C kR W A ys.length ys) (HB : Below w0.heap.size w0 W) (hl : xs.length + ys.length ≤ 10000)
    (h : ∀ A1 c1 w1, kR.R 34 w1 w0.heap.size (fun _ => True) (.slice A1 (xs ++ ys).length c1) (xs ++ ys) → Below w0.heap.size w0 w1 → W.grownBy w1 v.ownBlock → ((Value.slice A1 (xs ++ ys).length c1).ownBlock = v.ownBlock ∨ ∃ b, (Value.slice A1 (xs ++ ys).length c1).ownBlock = some b ∧ W.heap.size ≤ b) → Kc (a.put o.dst (.slice A1 (xs ++ ys).length c1)) w1) :
    if Region.wanted o (yielded ops a.tmps) = true then Oper.wp Try.prog o a W Kc Q else Kc (a.put o.dst undef) W := by
  subst hm
  refine Kd.R_append_rows_step (P := Try.prog) kR (w0 := w0) (W := W) (Rr := kR.K W) w0.heap.size hw s x 22 34 zNd 32 ho Try.underlying22 infoR rfl (by decide) (by decide) v xs ys A ys.length c (fun _ => True) (fun _ => False) hs hx HO HR (fun _ _ h => kR_KM h) (fun _ h => h.elim) (fun _ _ => trivial) HB HB.size (by omega) ?_
  intro v1 w1 hr1 hb1 hg1 hat1
  obtain ⟨A1, c1, e, _, _⟩ := Kd.R_reads hr1
  subst e
  exact h A1 c1 w1 hr1 hb1 hg1 hat1
theorem heap_at1 (w : World) (a : Obj) (cs : Array Value) (ty : TypeId) : ((w.alloc a).alloc (.cells cs ty)).heap[w.heap.size + 1]? = some (.cells cs ty (0, 0)) := by
  have h := heap_alloc_new (w.alloc a) (.cells cs ty)
  rw [size_al] at h
  exact h
theorem cell_far {w : World} {a p : Addr} {v u : Value} (h : w.cell? a = some v) (hne : a.block ≠ p.block) : (w.setCell p u).cell? a = some v := by
  unfold World.cell? at h ⊢
  rw [Below.heap_setCell w p u a.block hne]
  exact h
theorem keep_nil {W w20 : World} {v : Value} (hv : v.ownBlock = none) (hg : W.grownBy w20 v.ownBlock) (k : Nat) (o : Obj) (h : W.heap[k]? = some o) : w20.heap[k]? = some o :=
  (hg.block k (blt h) (fun e => by rw [hv] at e; cases e)).trans h
theorem keep_row {W w1 : World} {base : Nat} {v : Value} {xs : List Raw} (hp : 0 < xs.length) (hR : kR.R 34 W base (fun _ => True) v xs) (hg : W.grownBy w1 v.ownBlock) (k : Nat) (cs : Array Value) (h : W.heap[k]? = some (.cells cs 25 (0, 0))) : w1.heap[k]? = some (.cells cs 25 (0, 0)) := by
  obtain ⟨g, cap, rfl, _, _, cells, hc⟩ := Kd.R_form hR hp
  refine (hg.block k (blt h) (fun e => ?_)).trans h
  simp only [Value.ownBlock] at e
  injection e with e
  rw [e, hc] at h
  injection h with h
  injection h with _ h
  cases h
theorem three_cells {W : World} {g : Nat} {a b c : Value} (h : W.heap[g]? = some (.cells #[a, b, c] 25 (0, 0))) : W.cell? ⟨g, 0, none⟩ = some a ∧ W.cell? ⟨g, 1, none⟩ = some b ∧ W.cell? ⟨g, 2, none⟩ = some c ∧ W.frozen? ⟨g, 0, none⟩ = false ∧ W.frozen? ⟨g, 1, none⟩ = false ∧ W.frozen? ⟨g, 2, none⟩ = false := by
  obtain ⟨x, y, z⟩ := Bx3_one h
  exact ⟨x, y, z, blk_frozen h _, blk_frozen h _, blk_frozen h _⟩
theorem bel_grown {a b : World} {g n : Nat} (h : a.grownBy b (some g)) (hg : n ≤ g) (hn : n ≤ a.heap.size) : Below n a b :=
  ⟨h.os, h.tape, h.output, h.size, fun k hk => h.block k (Nat.lt_of_lt_of_le hk hn) (fun e => by cases e; omega)⟩
theorem add_M (M k : Nat) : (Addr.mk M 0 none).add k = ⟨M, k, none⟩ := by unfold Addr.add; split <;> simp_all
theorem rr_set {W : World} {base M n cap j : Nat} {xs : List Raw} (h : kR.R 34 W base (fun _ => True) (.slice (some ⟨M, 0, none⟩) n cap) xs) (hj : j < n) (r : Raw) :
    kR.R 34 ((W.setCell ⟨M, j * 2, none⟩ (.int .i64 r.1)).setCell ⟨M, j * 2 + 1, none⟩ (.slice r.2.1 r.2.2.1 r.2.2.2)) base (fun _ => True) (.slice (some ⟨M, 0, none⟩) n cap) (xs.set j r) := by
  obtain ⟨hn, hc, hC⟩ := Kd.R_reads' h
  obtain ⟨ad, c, e, hcl, hK, hcc⟩ := Kd.C_get hC zR (j : Int) (by omega) (by omega)
  injection e with e
  subst e
  rw [Int.toNat_natCast] at hcc
  have hcc2 : ∀ i u, c[i]? = some u → W.cell? ⟨M, (j : Int).toNat * kR.sz + i, none⟩ = some u := fun i u hu => by
    have := hcc i u hu
    rw [Int.toNat_natCast]
    rw [add_M] at this
    exact this
  have hMM : kR.M W base (fun k => k ≠ M) r (c.take 0 ++ [.int .i64 r.1, .slice r.2.1 r.2.2.1 r.2.2.2] ++ c.drop (0 + [Value.int .i64 r.1, .slice r.2.1 r.2.2.1 r.2.2.2].length)) := by
    have hd : c.drop (0 + [Value.int .i64 r.1, .slice r.2.1 r.2.2.1 r.2.2.2].length) = [] := List.drop_eq_nil_of_le (by rw [hcl]; exact Nat.le_refl _)
    rw [hd, List.append_nil]
    exact kR_M _ _ _ r
  have := Kd.R_seg h (j : Int) (by omega) (by omega) hcl hcc2 (j := 0) (seg := [.int .i64 r.1, .slice r.2.1 r.2.2.1 r.2.2.2]) (by show 0 + 2 ≤ 2; omega) hMM (fun k hk => ⟨trivial, hk⟩)
  rw [Int.toNat_natCast] at this
  exact this.1
theorem rr_cells {W : World} {base M n cap j : Nat} {xs : List Raw} (h : kR.R 34 W base (fun _ => True) (.slice (some ⟨M, 0, none⟩) n cap) xs) (hj : j < n) : ∃ u v, W.cell? ⟨M, j * 2, none⟩ = some u ∧ W.cell? ⟨M, j * 2 + 1, none⟩ = some v ∧ W.frozen? ⟨M, j * 2, none⟩ = false ∧ W.frozen? ⟨M, j * 2 + 1, none⟩ = false := by
  obtain ⟨hn, hc, hC⟩ := Kd.R_reads' h
  obtain ⟨ad, c, e, hcl, hK, hcc⟩ := Kd.C_get hC zR (j : Int) (by omega) (by omega)
  injection e with e
  subst e
  rw [Int.toNat_natCast] at hcc
  obtain rfl := kR_open hK
  obtain ⟨g, cap', e2, _, _, cells, hh⟩ := Kd.R_form h (by omega)
  simp only [Value.slice.injEq, Option.some.injEq, Addr.mk.injEq, and_true] at e2
  obtain ⟨rfl, _⟩ := e2
  have a := hcc 0 _ rfl
  have b := hcc 1 _ rfl
  rw [add_M] at a b
  exact ⟨_, _, a, b, blk_frozen hh _, blk_frozen hh _⟩
theorem c_of_fv {w : World} {A : Option Addr} {l : List V5} (h : Fv w A l) (hn : l.length ≤ 1000000) : Kd.C k5 w A l.length l := by
  refine ⟨rfl, by omega, fun h0 => ?_⟩
  obtain ⟨ad, e, _⟩ := h 0 h0
  refine ⟨ad, e, fun j p hj => ⟨p.cs, rfl, ⟨[_], [_, _, _, _], rfl, rfl, ⟨[_], [_, _, _], rfl, rfl, ⟨[_], [_, _], rfl, rfl, ⟨[_], [_], rfl, rfl, rfl⟩⟩⟩⟩, fun i u hu => ?_⟩⟩
  obtain ⟨hjl, hp⟩ := List.getElem?_eq_some_iff.1 hj
  obtain ⟨ad', e', hc⟩ := h j hjl
  rw [e] at e'
  injection e' with e'
  subst e'
  have hg : l.getD j z5 = p := by rw [List.getD_eq_getElem?_getD, hj]; rfl
  rw [hg] at hc
  obtain ⟨c0, c1, c2, c3, c4⟩ := hc
  have hi5 : i = 0 ∨ i = 1 ∨ i = 2 ∨ i = 3 ∨ i = 4 := by
    have := (List.getElem?_eq_some_iff.1 hu).1
    simp [V5.cs] at this
    omega
  rcases hi5 with rfl | rfl | rfl | rfl | rfl
  · obtain rfl : Value.int .i64 p.kd = u := by simpa [V5.cs] using hu
    exact c0
  · obtain rfl : Value.int .i64 p.n = u := by simpa [V5.cs] using hu
    rw [← add_field _ _ _ (by omega)] at c1; exact c1
  · obtain rfl : Value.int .u64 p.re = u := by simpa [V5.cs] using hu
    rw [← add_field _ _ _ (by omega)] at c2; exact c2
  · obtain rfl : Value.int .u64 p.im = u := by simpa [V5.cs] using hu
    rw [← add_field _ _ _ (by omega)] at c3; exact c3
  · obtain rfl : Value.int .i64 p.ref = u := by simpa [V5.cs] using hu
    rw [← add_field _ _ _ (by omega)] at c4; exact c4
theorem more_len {t : G3} {a : Nat} {n : Int} : (moreG t a n).ns.length = t.ns.length := by simp [moreG]
theorem sz_more {t : G3} {a : Nat} {n : Int} (h : Sz t) (hf : (t.ns.getD a zN).fs.length ≤ 30) : Sz (moreG t a n) := by
  refine ⟨h.r, h.s, fun x hx => ?_⟩
  rcases List.mem_or_eq_of_mem_set (show x ∈ t.ns.set a _ from hx) with h1 | h1
  · exact h.f x h1
  · subst h1
    show ((t.ns.getD a zN).fs ++ [_]).length ≤ 1000
    rw [List.length_append]
    show _ + 1 ≤ 1000
    omega
theorem sz_junk {g : G3} {x : N2} (h : Sz g) (hx : x.fs.length < 30) : Sz (junkG g x) := by
  refine ⟨h.r, h.s, fun y hy => ?_⟩
  rcases List.mem_append.1 (show y ∈ g.ns ++ [x] from hy) with h1 | h1
  · exact h.f y h1
  · rw [List.mem_singleton.1 h1]; omega
theorem trim_fs {g : G3} {W : List Int} (hf : ∀ x ∈ g.ns, x.fs.length ≤ 30) (a : Nat) : ((trimW g W).ns.getD a zN).fs.length ≤ 30 := by
  rcases Nat.lt_or_ge a (trimW g W).ns.length with h | h
  · obtain ⟨y, _, e⟩ := List.mem_map.1 (show (trimW g W).ns.getD a zN ∈ W.map (nodeT g (placeL g.ns.length W)) from mem_getD h)
    rw [← e]
    show ((nd g y).fs.map _).length ≤ 30
    rw [List.length_map]
    unfold nd
    rcases Nat.lt_or_ge y.toNat g.ns.length with h2 | h2
    · exact hf _ (mem_getD h2)
    · rw [List.getD_eq_getElem?_getD, List.getElem?_eq_none h2]; simp [zN]
  · rw [List.getD_eq_getElem?_getD, List.getElem?_eq_none h]; simp [zN]
theorem kR_E : ∀ q, q ∈ 34 :: kR.E → q ≠ 25 := by
  intro q hq
  have : q = 34 := by simpa [kR, Kd.pair, Kd.int, Kd.scalar] using hq
  rw [this]; decide
theorem set_block {w : World} {g : Nat} {cells : Array Value} {t : TypeId} (h : w.heap[g]? = some (.cells cells t (0, 0))) (k : Nat) (u : Value) : (w.setCell ⟨g, k, none⟩ u).heap[g]? = some (.cells (cells.setIfInBounds k u) t (0, 0)) := blk_set h k u
theorem box_set {w0 w : World} {base g : Nat} {z0 z1 z2 v : Value} {xs : List Raw} (h : w.heap[g]? = some (.cells #[z0, z1, z2] 25 (0, 0))) (hr : kR.R 34 w base (fun _ => True) v xs) (HB : Below base w0 w) (hg : base ≤ g) (hn : base ≤ w.heap.size) (a b c : Value) :
    ∃ w2, ((w.setCell ⟨g, 0, none⟩ a).setCell ⟨g, 1, none⟩ b).setCell ⟨g, 2, none⟩ c = w2 ∧ w2.heap[g]? = some (.cells #[a, b, c] 25 (0, 0)) ∧ kR.R 34 w2 base (fun _ => True) v xs ∧ Below base w0 w2 := by
  have h1 := set_block h 0 a
  have h2 := set_block h1 1 b
  have h3 := set_block h2 2 c
  refine ⟨_, rfl, h3, Kd.R_set (Kd.R_set (Kd.R_set hr h kR_E 0 a) h1 kR_E 1 b) h2 kR_E 2 c, ?_⟩
  have hs : ∀ (W : World) (k : Nat) (u : Value), base ≤ W.heap.size → Below base W (W.setCell ⟨g, k, none⟩ u) := fun W k u hW => bel_grown (grown_set W g k u) hg hW
  have b1 := hs w 0 a hn
  have b2 := hs _ 1 b (Nat.le_trans hn b1.size)
  have b3 := hs _ 2 c (Nat.le_trans (Nat.le_trans hn b1.size) b2.size)
  exact ((HB.trans b1).trans b2).trans b3
theorem box_new {w0 w : World} {base : Nat} {v : Value} {xs : List Raw} (hr : kR.R 34 w base (fun _ => True) v xs) (HB : Below base w0 w) (hn : base ≤ w.heap.size) (a b c : Value) :
    ∃ w2, w.alloc (.cells #[a, b, c] 25) = w2 ∧ w2.heap[w.heap.size]? = some (.cells #[a, b, c] 25 (0, 0)) ∧ kR.R 34 w2 base (fun _ => True) v xs ∧ Below base w0 w2 :=
  ⟨_, rfl, heap_alloc_new w _, Kd.R_alloc hr _, HB.alloc hn _⟩
theorem rows_gat {W wF : World} {AR AW A : Option Addr} {cR cW c base : Nat} {rl : List Raw} {g j : G3} {AN : Option Addr} {cN : Nat} (hG : GAt W (.agg #[.slice AN g.ns.length cN, .slice AR g.rs.length cR, .slice AW g.ws.length cW]) g) (hro : RawsOk wF rl j.ns) (hb : Below W.heap.size W wF)
    (hr : kR.R 34 wF base (fun _ => True) (.slice A rl.length c) rl) (e1 : j.rs = g.rs) (e2 : j.ws = g.ws) : GAt wF (.agg #[.slice A rl.length c, .slice AR g.rs.length cR, .slice AW g.ws.length cW]) j := by
  obtain ⟨AN', cN', AR', cR', AW', cW', e, h1, h2, h3, a, b, d⟩ := hG
  injection e with e
  have e' : [Value.slice AN g.ns.length cN, .slice AR g.rs.length cR, .slice AW g.ws.length cW] = [.slice AN' g.ns.length cN', .slice AR' g.rs.length cR', .slice AW' g.ws.length cW'] := congrArg Array.toList e
  simp only [List.cons.injEq, Value.slice.injEq, and_true, true_and] at e'
  obtain ⟨⟨rfl, rfl⟩, ⟨rfl, rfl⟩, rfl, rfl⟩ := e'
  obtain ⟨_, hc, hC⟩ := Kd.R_reads' hr
  refine ⟨A, c, AR, cR, AW, cW, by rw [← hro.1, e1, e2], by rw [← hro.1]; exact hc, by rw [e1]; exact h2, by rw [e2]; exact h3, nv_of hC hro, ?_, ?_⟩
  · rw [e1]; exact b.below hb.block
  · rw [e2]; exact d.below hb.block
end Go.Proofs.Ytdgclpgjoanimaa.Rx
