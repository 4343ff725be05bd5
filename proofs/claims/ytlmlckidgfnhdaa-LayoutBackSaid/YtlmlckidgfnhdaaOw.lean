/- own: a config in memory of its own. -/
import Derived.Test.YtlmlckidgfnhdaaPc
namespace Go.Proofs.Ytlmlckidgfnhdaa.Ow
open Go.RowKit Go.ChangeShapes Go.WideShapes Go.Proofs.YtlmlckidgfnhdaaW.PrintWords Go.Proofs.Ytlmlckidgfnhdaa.Ba Go.Proofs.Ytlmlckidgfnhdaa.Kw Go.Proofs.Ytlmlckidgfnhdaa.Pl Go.Proofs.Ytlmlckidgfnhdaa.Pc
set_option linter.unusedVariables false
set_option linter.unusedSimpArgs false
theorem info54 : (Try.prog.info? 54).map (fun i => (i.zero, i.size, i.bytes)) = some (some (.agg #[.slice none 0 0]), kK.sz, 24) := by kernel_rfl
theorem C_rd {w : World} {A : Option Addr} {l : List Int} (h : Rd w A l) (hl : l.length ≤ 1000000) : Kd.C (Kd.int .i64) w A l.length l := by
  refine ⟨rfl, by omega, fun h0 => ?_⟩
  obtain ⟨ad, rfl, _⟩ := h 0 h0
  refine ⟨ad, rfl, fun j p hj => ⟨[.int .i64 p], rfl, rfl, fun i u hu => ?_⟩⟩
  obtain ⟨hjl, hp⟩ := List.getElem?_eq_some_iff.1 hj
  obtain ⟨ad', e', hc⟩ := h j hjl
  injection e' with e'
  subst e'
  have hg : l.getD j 0 = p := by rw [List.getD_eq_getElem?_getD, hj]; rfl
  rw [hg] at hc
  have hi : i = 0 := by
    have := (List.getElem?_eq_some_iff.1 hu).1
    simp at this
    omega
  subst hi
  obtain rfl : Value.int .i64 p = u := by simpa using hu
  show w.cell? (ad.add (j * 1 + 0)) = _
  rw [Nat.mul_one, Nat.add_zero]
  exact hc
/-- A row of ints of the call's own. -/
def RI (w : World) (base : Nat) (v : Value) (l : List Int) : Prop := (Kd.int .i64).R 3 w base (fun _ => True) v l
theorem RI.reads {w : World} {base : Nat} {v : Value} {l : List Int} (h : RI w base v l) : ∃ A c, v = .slice A l.length c ∧ l.length ≤ c ∧ Rd w A l := by
  obtain ⟨A, c, e, hl, hC⟩ := Kd.R_reads h
  exact ⟨A, c, e, hl, rd_C hC⟩
theorem RI.below {w w' : World} {base : Nat} {v : Value} {l : List Int} (h : RI w base v l) (hb : Below w.heap.size w w') : RI w' base v l := Kd.R_below h hb
theorem RI.lit0 (w : World) (base : Nat) (h : base ≤ w.heap.size) : RI (w.alloc (.cells #[] 3)) base (.slice (some ⟨w.heap.size, 0, none⟩) 0 0) [] :=
  ⟨fun _ _ => trivial, [], World.ownsRow_lit (base := base) (e := 3) (size := 1) w #[] 0 h (by decide) rfl, Reps.none _ _⟩
theorem int_KM {w W : World} {base : Nat} {ok : Nat → Prop} {x : Int} {cs : List Value} (h : (Kd.int .i64).K w x cs) : (Kd.int .i64).M W base ok x cs := h
/-- A row of types of the call's own. -/
def RK (w : World) (base : Nat) (v : Value) (l : List (List Int)) : Prop := kK.R 54 w base (fun _ => True) v l
theorem RK.reads {w : World} {base : Nat} {v : Value} {l : List (List Int)} (h : RK w base v l) : ∃ A c, v = .slice A l.length c ∧ l.length ≤ c ∧ Ks w A l := by
  obtain ⟨A, c, e, hl, hC⟩ := Kd.R_reads h
  exact ⟨A, c, e, hl, ks_C hC (Nat.le_refl _)⟩
theorem RK.below {w w' : World} {base : Nat} {v : Value} {l : List (List Int)} (h : RK w base v l) (hb : Below w.heap.size w w') : RK w' base v l := Kd.R_below h hb
theorem RK.nil (w : World) (base : Nat) : RK w base (.slice none 0 0) [] := Kd.R_nil _ _ _ _ _
theorem kK_M {w : World} {base base' : Nat} {v v1 : Value} {l : List (List Int)} {x : List Int} (hl : RK w base v l) (hb : base ≤ base') (hx : RI w base' v1 x) (hlt : ∀ k, v.ownBlock = some k → k < base') : kK.M w base (fun k => some k ≠ v.ownBlock) x [v1] :=
  ⟨_, rfl, Kd.R_lower (Kd.R_mono (Kd.R_bound hx) (fun q hq e => by
    have h1 := hlt q e.symm
    obtain ⟨_, h2, _⟩ := hq
    omega)) hb⟩
theorem new2' (w : World) (o : Obj) (cs : Array Value) {t : Nat} : ((w.alloc o).alloc (.cells cs t)).heap[w.heap.size + 1]? = some (.cells cs t (0, 0)) := by
  rw [← size_al w o]
  exact heap_alloc_new _ _
def ClonePost (l : List Int) (w : World) (e : Ending) (w' : World) : Prop := ∃ v, e = .returned v ∧ RI w' w.heap.size v l ∧ Below w.heap.size w w'
theorem clone_any (A : Option Addr) (c : Nat) (l : List Int) (w : World) (h : Rd w A l) (hl : l.length ≤ 1000) (h0 : 0 < l.length) : Calls Try.prog 52 #[.slice A l.length c] w (ClonePost l w) := by
  obtain ⟨ad, rfl, _⟩ := h 0 h0
  have ke : ∀ W : World, (binOp .eql 52 (.slice (some ad) l.length c) (.slice none 0 0)).run Try.prog W = .ok (.bool false) W := fun W => by rfl
  have hb := (Below.refl w.heap.size w).alloc (Nat.le_refl _) (.cells #[] 3)
  have HC := Lib.hid (C_rd (h.below hb.block) (by omega))
  have hL0 := Lib.hid (RI.lit0 w w.heap.size (Nat.le_refl _))
  clear h
  go_enter Try.func52, Try.ntmps52
  go_wp2_with (at_builtin; refine Kd.R_append_rows (P := Try.prog) (Kd.int .i64) (w0 := w) (Rr := (Kd.int .i64).K _) w.heap.size rfl (.tmp 5) (.tmp 6) 52 3 (.int .i64 0) 8 rfl Try.underlying52 info3 rfl (by decide) (by decide) _ [] l (some ad) l.length c (fun _ => True) (fun _ => False) rfl rfl hL0.out HC.out (fun _ _ h => int_KM h) (fun _ h => h.elim) (fun _ _ => trivial) hb hb.size ?c1 ?_)
  case c1 => first | omega | (simp; omega)
  intro v3 w3 hr3 hb3 _ _
  have HR : Hid (RI w3 w.heap.size v3 l) := Lib.hid hr3
  clear hr3 hb hL0
  go_wp2
  go_ret
  exact ⟨_, rfl, HR.out, hb3⟩
theorem below_of_grown {B g : Nat} {w w' : World} (h : w.grownBy w' (some g)) (hg : B ≤ g) (hB : B ≤ w.heap.size) : Below B w w' :=
  ⟨h.os, h.tape, h.output, h.size, fun j hj => h.block j (by omega) (fun e => by injection e with e; omega)⟩
theorem store_named {P : Program} {ops : Array Oper} {rest : List Oper} {op : Oper} {a : Act} {w w2 : World} {Q : Exit → Act → World → Prop} (hgd : op.guard = none) (ty : TypeId) (x y : Operand) (ho : op.op = .store ty x y)
    (b o : Nat) (cells : Array Value) (hx : a.eval x = .pointer (some ⟨b, o, none⟩)) (hy : a.eval y = .agg cells)
    (ht : w.there b o cells.size) (hi : (P.info? ty).map (·.size) = some cells.size) (h1 : cells.all (·.oneCell') = true) (hw : w.setCells b o cells.toList = w2)
    (h : wpList P ops Q rest (a.put op.dst undef) w2) : wpList P ops Q (op :: rest) a w :=
  wpList_store_mid hgd ty x y ho b o cells hx hy ht hi h1 (by rw [hw]; exact h)
theorem info25 : (Try.prog.info? 25).map (·.size) = some 8 := by kernel_rfl
def C8 (A : Option Addr) (n k : Nat) (b0 b1 b2 b3 ro we lg : Int) : Array Value := #[.slice A n k, .int .i64 b0, .int .i64 b1, .int .i64 b2, .int .i64 b3, .int .i64 ro, .int .i64 we, .int .i64 lg]
theorem one8 (A : Option Addr) (n k : Nat) (b0 b1 b2 b3 ro we lg : Int) : (#[Value.slice A n k, .int .i64 b0, .int .i64 b1, .int .i64 b2, .int .i64 b3, .int .i64 ro, .int .i64 we, .int .i64 lg] : Array Value).all (·.oneCell') = true := by
  refine all_oneCell_toArray (cs := [Value.slice A n k, .int .i64 b0, .int .i64 b1, .int .i64 b2, .int .i64 b3, .int .i64 ro, .int .i64 we, .int .i64 lg]) fun v hv => ?_
  simp only [List.mem_cons, List.not_mem_nil, or_false] at hv
  rcases hv with rfl | rfl | rfl | rfl | rfl | rfl | rfl | rfl <;> rfl
theorem there8 {w : World} {g : Nat} {cs : Array Value} {t : Nat} (h : w.heap[g]? = some (.cells cs t (0, 0))) (h8 : cs.size = 8) : w.there g 0 8 := by
  intro j hj
  refine ⟨?_, blk_frozen h _⟩
  rw [blk_cell h]
  rw [Nat.zero_add, Array.getElem?_eq_getElem (by omega)]
  rfl
theorem store8 {w : World} {g : Nat} {cs : Array Value} {t : Nat} (h : w.heap[g]? = some (.cells cs t (0, 0))) (h8 : cs.size = 8) (A : Option Addr) (n k : Nat) (b0 b1 b2 b3 ro we lg : Int) :
    ∃ w2, w.setCells g 0 (C8 A n k b0 b1 b2 b3 ro we lg).toList = w2 ∧ w2.heap[g]? = some (.cells #[.slice A n k, .int .i64 b0, .int .i64 b1, .int .i64 b2, .int .i64 b3, .int .i64 ro, .int .i64 we, .int .i64 lg] t (0, 0)) ∧ w.grownBy w2 (some g) := by
  refine ⟨_, rfl, ?_, ?_⟩
  · obtain ⟨cur', h3, h4, h5⟩ := setCells_row (C8 A n k b0 b1 b2 b3 ro we lg).toList 0 w _ h (by simp [C8, h8])
    rw [h3]
    have : cur'.toList = (C8 A n k b0 b1 b2 b3 ro we lg).toList := by
      have e : cur'.toList = cur'.toList.take (0 + (C8 A n k b0 b1 b2 b3 ro we lg).toList.length) := (List.take_of_length_le (by rw [Array.length_toList, h4]; simp [C8, h8])).symm
      rw [e, h5]
      rfl
    have : cur' = (C8 A n k b0 b1 b2 b3 ro we lg).toList.toArray := by rw [← this]
    rw [this]
    rfl
  · obtain ⟨s1, s2, s3, s4⟩ := setCells_same g (C8 A n k b0 b1 b2 b3 ro we lg).toList 0 w
    exact ⟨s1, s2, s3, by rw [s4]; exact Nat.le_refl _, fun k _ hk => setCells_far _ _ k (fun he => hk (by rw [he]))⟩
set_option maxHeartbeats 8000000 in
set_option maxRecDepth 20000 in
theorem own_any (A : Option Addr) (k : Nat) (ks : List (List Int)) (b0 b1 b2 b3 ro we lg : Int) (w : World) (h : Ks w A ks) (hl : ks.length ≤ 100) (hk : ∀ x ∈ ks, 0 < x.length ∧ x.length ≤ 100) :
    Calls Try.prog 35 #[.agg #[.slice A ks.length k, .int .i64 b0, .int .i64 b1, .int .i64 b2, .int .i64 b3, .int .i64 ro, .int .i64 we, .int .i64 lg]] w fun e w' => ∃ A' k', e = .returned (.agg #[.slice A' ks.length k', .int .i64 b0, .int .i64 b1, .int .i64 b2, .int .i64 b3, .int .i64 ro, .int .i64 we, .int .i64 lg]) ∧ ks.length ≤ k' ∧ Ks w' A' ks ∧ Below w.heap.size w w' := by
  have hz25 : ∀ w, (zeroValue 25).run Try.prog w = .ok (.agg #[.slice none 0 0, .int .i64 0, .int .i64 0, .int .i64 0, .int .i64 0, .int .i64 0, .int .i64 0, .int .i64 0]) w := fun w => by kernel_rfl
  have hz54 : ∀ w, (zeroValue 54).run Try.prog w = .ok (.agg #[.slice none 0 0]) w := fun w => by kernel_rfl
  obtain ⟨w0, hw0⟩ : ∃ w0, (w.alloc (.cells #[.slice A ks.length k, .int .i64 b0, .int .i64 b1, .int .i64 b2, .int .i64 b3, .int .i64 ro, .int .i64 we, .int .i64 lg] 25)).alloc (.cells #[.slice none 0 0, .int .i64 0, .int .i64 0, .int .i64 0, .int .i64 0, .int .i64 0, .int .i64 0, .int .i64 0] 25) = w0 := ⟨_, rfl⟩
  have HB0 : Hid (Below w.heap.size w w0) := Lib.hid (by rw [← hw0]; exact ((Below.refl _ _).alloc (Nat.le_refl _) _).alloc (by simp) _)
  have HXC : Hid (w0.heap[w.heap.size]? = some (.cells #[.slice A ks.length k, .int .i64 b0, .int .i64 b1, .int .i64 b2, .int .i64 b3, .int .i64 ro, .int .i64 we, .int .i64 lg] 25 (0, 0))) := Lib.hid (by rw [← hw0]; exact blk_alloc (heap_alloc_new w _) _)
  have HXZ : Hid (w0.heap[w.heap.size + 1]? = some (.cells #[.slice none 0 0, .int .i64 0, .int .i64 0, .int .i64 0, .int .i64 0, .int .i64 0, .int .i64 0, .int .i64 0] 25 (0, 0))) := Lib.hid (by rw [← hw0]; exact new2' _ _ _)
  have HKS := Lib.hid (h.old HB0.out.block)
  have HS0 : Hid (w0.heap.size = w.heap.size + 2) := Lib.hid (by rw [← hw0, size_al, size_al])
  obtain ⟨p0, p1, p2, p3, p4, p5, p6, p7⟩ := cells8 HXC.out
  have HHK := Lib.hid hk
  clear h hk
  go_enter Try.func35, Try.ntmps35
  go_wp2
  go_loopw [3, 9] (fun l i wr => ∃ j : Nat, j ≤ ks.length ∧ i = .int .i64 (j : Int) ∧ RK wr w0.heap.size l (ks.take j) ∧ Below w0.heap.size w0 wr) (fun _ i _ => ks.length - (intOf i).toNat)
  case atStart => exact ⟨0, by omega, rfl, RK.nil _ _, Below.refl _ _⟩
  case round =>
    obtain ⟨j, hj, rfl, hr, hb⟩ := hrel
    have HR := Lib.hid hr
    have HB := Lib.hid hb
    clear hr p0 p1 p2 p3 p4 p5 p6 p7
    have hbs := hb.size
    by_cases hlt : j < ks.length
    · obtain ⟨ad, rfl, A1, c1, hc, hl1, hrd⟩ := HKS.out.old hb.block j hlt
      have hx := HHK.out _ (mem_getD (d := ([] : List Int)) hlt)
      have HT := Lib.hid (take_snoc ks [] j hlt)
      obtain ⟨f, hf⟩ : ∃ f, ks.getD j [] = f := ⟨_, rfl⟩
      rw [hf] at hc hrd hl1 hx HT
      have hba := (Below.refl wr.heap.size wr).alloc (Nat.le_refl _) (.cells #[.slice A1 f.length c1] 54)
      have HC := Lib.hid (clone_any A1 c1 f _ (hrd.below hba.block) (by omega) hx.1)
      have HBA := Lib.hid (hb.trans (hba.mono hbs))
      have HRA := Lib.hid (HR.out.below hba)
      clear hb hf hrd hba
      obtain ⟨L, hL⟩ : ∃ L, ks.take j = L := ⟨_, rfl⟩
      have hLl : L.length = j := by rw [← hL, List.length_take_of_le hj]
      rw [hL] at HR HRA HT
      clear hL
      go_wp2_with fail
      refine HC.out.mono ?_
      rintro e w1 ⟨v1, rfl, hv1, hb1⟩
      have HV1 := Lib.hid hv1
      have HB1 := Lib.hid (HBA.out.trans (hb1.mono HBA.out.size))
      have HR1 := Lib.hid (HRA.out.below hb1)
      have HM := Lib.hid (kK_M HR1.out HBA.out.size HV1.out (fun q hq => Kd.R_lt HRA.out q hq))
      have hs1 := HB1.out.size
      obtain ⟨A5, c5, rfl, _, _⟩ := hv1.reads
      clear hv1 hb1
      go_wp2_with (at_builtin; refine Kd.R_append (P := Try.prog) kK (w0 := w0) (W := w1) w0.heap.size rfl (.tmp 13) (.tmp 18) 22 54 (.agg #[.slice none 0 0]) 24 rfl Try.underlying22 info54 rfl (by decide) (by decide) _ L f [.slice A5 f.length c5] (fun _ => True) _ rfl rfl HM.out (fun k hk => ⟨trivial, hk⟩) (fun _ _ => trivial) HR1.out HB1.out hs1 ?c1 ?_)
      case c1 => omega
      intro v9 w9 hr9 hb9 hg9 hat9
      have HR9 : Hid (RK w9 w0.heap.size v9 (ks.take (j + 1))) := Lib.hid (by rw [HT.out]; exact hr9)
      clear hr9 hg9 hat9
      go_wp2
      go_roundw
      case rel => exact ⟨j + 1, by omega, by go_num, HR9.out, hb9⟩
      case measure => simp [intOf]; omega
    · obtain rfl : j = ks.length := by omega
      have hr := HR.out
      rw [List.take_length] at hr
      have HRR := Lib.hid hr
      obtain ⟨A5, c5, rfl, hlc, hKs⟩ := hr.reads
      have HX := Lib.hid (blk_below HXC.out HB.out)
      have HZ := Lib.hid (blk_below HXZ.out HB.out)
      obtain ⟨p0, p1, p2, p3, p4, p5, p6, p7⟩ := cells8 HX.out
      have z0 := blk_frozen HX.out 0
      obtain ⟨w4, hw4⟩ : ∃ w4, wr.setCell ⟨w.heap.size, 0, none⟩ (.slice A5 ks.length c5) = w4 := ⟨_, rfl⟩
      have HX4 : Hid (w4.heap[w.heap.size]? = some (.cells #[.slice A5 ks.length c5, .int .i64 b0, .int .i64 b1, .int .i64 b2, .int .i64 b3, .int .i64 ro, .int .i64 we, .int .i64 lg] 25 (0, 0))) := Lib.hid (by rw [← hw4]; exact blk_set HX.out 0 _)
      have HZ4 : Hid (w4.heap[w.heap.size + 1]? = some (.cells #[.slice none 0 0, .int .i64 0, .int .i64 0, .int .i64 0, .int .i64 0, .int .i64 0, .int .i64 0, .int .i64 0] 25 (0, 0))) := Lib.hid (by rw [← hw4]; exact blk_far HZ.out (by show w.heap.size + 1 ≠ w.heap.size; omega) _)
      have hR4 : RK w4 w0.heap.size (.slice A5 ks.length c5) ks := by
        rw [← hw4]
        have h0 := HRR.out
        exact Kd.R_step (Kd.R_bound h0) (fun q hq _ => Below.heap_setCell wr _ _ q (fun e => by obtain ⟨_, h1, _⟩ := hq; have := HS0.out; simp only at e; omega)) |> fun h => Kd.R_mono h (fun _ _ => trivial)
      have HR4 := Lib.hid hR4
      have HB4 : Hid (Below w.heap.size w w4) := Lib.hid (by rw [← hw4]; exact (HB0.out.trans (HB.out.mono HB0.out.size)).trans (below_of_grown (grown_set wr w.heap.size 0 _) (Nat.le_refl _) (by have := HS0.out; omega)))
      obtain ⟨q0, q1, q2, q3, q4, q5, q6, q7⟩ := cells8 HX4.out
      obtain ⟨w5, hw5, hx5, hg5⟩ := store8 HZ4.out rfl A5 ks.length c5 b0 b1 b2 b3 ro we lg
      have HW5 := Lib.hid hw5
      have HX5 := Lib.hid hx5
      have HTH := Lib.hid (there8 HZ4.out rfl)
      have hs4 : w.heap.size + 1 < w4.heap.size := blk_lt HZ4.out
      have HK5 : Hid (Ks w5 A5 ks) := Lib.hid (by
        have h0 := Kd.R_step (Kd.R_bound HR4.out) (fun q hq hlt => hg5.block q hlt (fun e => by obtain ⟨_, h1, _⟩ := hq; have := HS0.out; injection e with e; omega))
        obtain ⟨A6, c6, e6, _, h6⟩ := Kd.R_reads h0
        injection e6 with e6 _ _
        subst e6
        exact ks_C h6 (Nat.le_refl _))
      have HB5 : Hid (Below w.heap.size w w5) := Lib.hid (HB4.out.trans (below_of_grown hg5 (by omega) (by have := HB4.out.size; omega)))
      obtain ⟨r0, r1, r2, r3, r4, r5, r6, r7⟩ := cells8 hx5
      clear hb hr hKs hw5 hx5 hg5 hR4
      go_wp2_with (refine store_named (P := Try.prog) rfl 25 (.tmp 2) (.tmp 23) rfl (w.heap.size + 1) 0 #[.slice A5 ks.length c5, .int .i64 b0, .int .i64 b1, .int .i64 b2, .int .i64 b3, .int .i64 ro, .int .i64 we, .int .i64 lg] rfl rfl HTH.out info25 (one8 _ _ _ _ _ _ _ _ _ _) HW5.out ?_)
      go_wp2
      (try simp only [Exit.inBlock, Exit.then])
      refine bodyPost_ret (results_cell_row rfl _ _ (w.heap.size + 1) 25 _ (0, 0) _ rfl HX5.out Try.underlying25 rfl info25) rfl ?_
      exact ⟨A5, c5, rfl, hlc, HK5.out, HB5.out⟩
end Go.Proofs.Ytlmlckidgfnhdaa.Ow
