/- closure.Entries by its contract. -/
import Derived.Test.YtgkjhnilgmokiaaFx
import Derived.Deep.MidRow
namespace Go.Proofs.Ytgkjhnilgmokiaa.En
open Go.RowKit Go.ChangeShapes Go.WideShapes Go.Proofs.YtgkjhnilgmokiaaW.PrintWords Go.Proofs.Ytgkjhnilgmokiaa.Ha Go.Proofs.Ytgkjhnilgmokiaa.Hp Go.Proofs.Ytgkjhnilgmokiaa.Cl Go.Proofs.Ytgkjhnilgmokiaa.Clo Go.Proofs.Ytgkjhnilgmokiaa.W8 Go.Proofs.Ytgkjhnilgmokiaa.Of Go.Proofs.Ytgkjhnilgmokiaa.Fo Go.Proofs.Ytgkjhnilgmokiaa.Aw Go.Proofs.Ytgkjhnilgmokiaa.Co Go.Proofs.Ytgkjhnilgmokiaa.Fx
set_option linter.unusedVariables false
def Fixed (objs blocks : List Int) (l l' : List W8) : Prop := l'.length = l.length ∧ ∀ i, i < l.length → Fxd objs blocks (l.getD i z8).v (l'.getD i z8).v
theorem Fixed.nil (objs blocks : List Int) : Fixed objs blocks [] [] := ⟨rfl, fun i hi => absurd hi (by simp)⟩
theorem Fixed.snoc {objs blocks : List Int} {l l' : List W8} {x y : W8} (h : Fixed objs blocks l l') (hx : Fxd objs blocks x.v y.v) : Fixed objs blocks (l ++ [x]) (l' ++ [y]) := by
  refine ⟨by simp [h.1], fun i hi => ?_⟩
  rw [List.length_append, List.length_singleton] at hi
  by_cases e : i < l.length
  · rw [List.getD_eq_getElem?_getD, List.getD_eq_getElem?_getD, List.getElem?_append_left e, List.getElem?_append_left (by rw [h.1]; exact e), ← List.getD_eq_getElem?_getD, ← List.getD_eq_getElem?_getD]
    exact h.2 i e
  · obtain rfl : i = l.length := by omega
    rw [List.getD_eq_getElem?_getD, List.getD_eq_getElem?_getD, List.getElem?_append_right (Nat.le_refl _), List.getElem?_append_right (by rw [h.1]; exact Nat.le_refl _), h.1, Nat.sub_self]
    exact hx
def EnPost (objs blocks : List Int) (l : List W8) (w : World) (e : Ending) (w' : World) : Prop := ∃ l' v, Fixed objs blocks l l' ∧ e = .returned v ∧ R8 w' w.heap.size v l' ∧ Below w.heap.size w w'
/-- A block of eight cells. -/
def Bx8 (w : World) (g : Nat) (x : W8) : Prop := w.heap[g]? = some (.cells #[.int .i64 x.kind, .int .i64 x.obj, .int .i64 x.field, .int .i64 x.v.kd, .int .i64 x.v.n, .int .u64 x.v.re, .int .u64 x.v.im, .int .i64 x.v.ref] 38 (0, 0))
theorem Bx8.cells {w : World} {g : Nat} {a b c d e f i j : Int} (h : Bx8 w g ⟨a, b, c, ⟨d, e, f, i, j⟩⟩) : w.cell? ⟨g, 0, none⟩ = some (.int .i64 a) ∧ w.cell? ⟨g, 1, none⟩ = some (.int .i64 b) ∧ w.cell? ⟨g, 2, none⟩ = some (.int .i64 c) ∧
    w.cell? ⟨g, 3, none⟩ = some (.int .i64 d) ∧ w.cell? ⟨g, 4, none⟩ = some (.int .i64 e) ∧ w.cell? ⟨g, 5, none⟩ = some (.int .u64 f) ∧ w.cell? ⟨g, 6, none⟩ = some (.int .u64 i) ∧ w.cell? ⟨g, 7, none⟩ = some (.int .i64 j) := by
  refine ⟨?_, ?_, ?_, ?_, ?_, ?_, ?_, ?_⟩ <;> (rw [cell_of_row w g _ _ 38 (0, 0) h]; rfl)
theorem Bx8.frozen {w : World} {g : Nat} {x : W8} (h : Bx8 w g x) (j : Nat) : w.frozen? ⟨g, j, none⟩ = false := blk_frozen h j
theorem info36 : (Try.prog.info? 36).map (·.size) = some 5 := by kernel_rfl
theorem one5 (a b c d e : Int) : (#[Value.int .i64 a, .int .i64 b, .int .u64 c, .int .u64 d, .int .i64 e] : Array Value).all (·.oneCell') = true := by
  refine all_oneCell_toArray (cs := [Value.int .i64 a, .int .i64 b, .int .u64 c, .int .u64 d, .int .i64 e]) fun v hv => ?_
  simp only [List.mem_cons, List.not_mem_nil, or_false] at hv
  rcases hv with rfl | rfl | rfl | rfl | rfl <;> rfl
theorem Bx8.there {w : World} {g : Nat} {x : W8} (h : Bx8 w g x) : w.there g 3 5 := by
  intro j hj
  refine ⟨?_, h.frozen _⟩
  rw [cell_of_row w g _ _ 38 (0, 0) h]
  have : j = 0 ∨ j = 1 ∨ j = 2 ∨ j = 3 ∨ j = 4 := by omega
  rcases this with rfl | rfl | rfl | rfl | rfl <;> rfl
theorem Bx8.store {w : World} {g : Nat} {x : W8} (h : Bx8 w g x) (r : V5) : ∃ w2, w.setCells g 3 r.cs = w2 ∧ Bx8 w2 g ⟨x.kind, x.obj, x.field, r⟩ ∧ w.grownBy w2 (some g) := by
  refine ⟨_, rfl, ?_, ?_⟩
  · obtain ⟨cur', h3, h4, h5⟩ := setCells_row r.cs 3 w _ h (by simp [V5.cs])
    unfold Bx8
    rw [h3]
    have : cur'.toList = [Value.int .i64 x.kind, .int .i64 x.obj, .int .i64 x.field] ++ r.cs := by
      have e : cur'.toList = cur'.toList.take (3 + r.cs.length) := (List.take_of_length_le (by rw [Array.length_toList, h4]; simp [V5.cs])).symm
      rw [e, h5]
      rfl
    have : cur' = ([Value.int .i64 x.kind, .int .i64 x.obj, .int .i64 x.field] ++ r.cs).toArray := by rw [← this]
    rw [this]
    rfl
  · obtain ⟨s1, s2, s3, s4⟩ := setCells_same g r.cs 3 w
    exact ⟨s1, s2, s3, by rw [s4]; exact Nat.le_refl _, fun k _ hk => setCells_far r.cs _ k (fun he => hk (by rw [he]))⟩
theorem store_named {P : Program} {ops : Array Oper} {rest : List Oper} {op : Oper} {a : Act} {w w2 : World} {Q : Exit → Act → World → Prop} (hgd : op.guard = none) (ty : TypeId) (x y : Operand) (ho : op.op = .store ty x y)
    (b o : Nat) (cells : Array Value) (hx : a.eval x = .pointer (some ⟨b, o, none⟩)) (hy : a.eval y = .agg cells)
    (ht : w.there b o cells.size) (hi : (P.info? ty).map (·.size) = some cells.size) (h1 : cells.all (·.oneCell') = true) (hw : w.setCells b o cells.toList = w2)
    (h : wpList P ops Q rest (a.put op.dst undef) w2) : wpList P ops Q (op :: rest) a w :=
  wpList_store_mid hgd ty x y ho b o cells hx hy ht hi h1 (by rw [hw]; exact h)
set_option maxHeartbeats 8000000 in
theorem entries_any (A0 : Option Addr) (c0 : Nat) (l : List W8) (A B : Option Addr) (c d : Nat) (objs blocks : List Int) (w : World) (h8 : Kd.C k8 w A0 l.length l) (hn : l.length ≤ 1000) (ho : Rd w A objs) (hb : Rd w B blocks) (hl : objs.length ≤ 1000) (hl2 : blocks.length ≤ 1000) :
    Calls Try.prog 27 #[.slice A0 l.length c0, .slice A objs.length c, .slice B blocks.length d] w (EnPost objs blocks l w) := by
  have H8 := Lib.hid h8
  have HO := Lib.hid ho
  have HB := Lib.hid hb
  clear h8 ho hb
  go_enter Try.func27, Try.ntmps27
  go_wp2
  go_loopw [7, 12] (fun v i wr => ∃ (k : Nat) (L : List W8), k ≤ l.length ∧ i = .int .i64 (k : Int) ∧ Fixed objs blocks (l.take k) L ∧ R8 wr w.heap.size v L ∧ Below w.heap.size w wr) (fun _ i _ => l.length - (intOf i).toNat)
  case atStart => exact ⟨0, [], by omega, rfl, Fixed.nil _ _, R8.nil _ _, Below.refl _ _⟩
  case round =>
    obtain ⟨k, L, hk, rfl, hf, hr, hbw⟩ := hrel
    have hLl : L.length = k := by rw [hf.1, List.length_take]; omega
    by_cases hlt : k < l.length
    · obtain ⟨ad, rfl, hc⟩ := at_W8 (Kd.C_below H8.out hbw) k hlt
      have HT := Lib.hid (take_next8 l k hlt)
      obtain ⟨x, hx⟩ : ∃ x, l.getD k z8 = x := ⟨_, rfl⟩
      rw [hx] at hc HT
      clear hx
      obtain ⟨q0, q1, q2, q3, q4, q5, q6, q7⟩ := hc
      obtain ⟨f0, f1, f2, ⟨f3, f4, f5, f6, f7⟩⟩ := x
      dsimp only at q0 q1 q2 q3 q4 q5 q6 q7
      have hb1 := hbw.alloc hbw.size (.cells #[.int .i64 f0, .int .i64 f1, .int .i64 f2, .int .i64 f3, .int .i64 f4, .int .u64 f5, .int .u64 f6, .int .i64 f7] 38)
      have hl0 := (Below.refl wr.heap.size wr).alloc (Nat.le_refl _) (.cells #[.int .i64 f0, .int .i64 f1, .int .i64 f2, .int .i64 f3, .int .i64 f4, .int .u64 f5, .int .u64 f6, .int .i64 f7] 38)
      have HR := Lib.hid hr
      have HX : Hid (Bx8 (wr.alloc (.cells #[.int .i64 f0, .int .i64 f1, .int .i64 f2, .int .i64 f3, .int .i64 f4, .int .u64 f5, .int .u64 f6, .int .i64 f7] 38)) wr.heap.size ⟨f0, f1, f2, ⟨f3, f4, f5, f6, f7⟩⟩) := Lib.hid (heap_alloc_new wr _)
      have HF := Lib.hid hf
      have HLL := Lib.hid hLl
      have hll : L.length ≤ 1000 := by omega
      have hsz := hbw.size
      clear hr hf hLl
      go_wp2_with fail
      refine (fix_any ⟨f3, f4, f5, f6, f7⟩ A B c d objs blocks _ (HO.out.below hb1.block) (HB.out.below hb1.block) hl hl2).mono ?_
      rintro e w1 ⟨r, hfr, rfl, hb2⟩
      have hx1 : Bx8 w1 wr.heap.size ⟨f0, f1, f2, ⟨f3, f4, f5, f6, f7⟩⟩ := (hb2.block _ (by rw [size_al]; omega)).trans HX.out
      have hb3 := hl0.trans (hb2.mono hl0.size)
      have hs3 := hb2.size
      rw [size_al] at hs3
      obtain ⟨r0, r1, r2, r3, r4⟩ := r
      have HFR := Lib.hid hfr
      have HTH := Lib.hid hx1.there
      obtain ⟨w2, hw2, hx2, hg2⟩ := hx1.store ⟨r0, r1, r2, r3, r4⟩
      obtain ⟨p0, p1, p2, p3, p4, p5, p6, p7⟩ := hx2.cells
      have HW2 := Lib.hid hw2
      have hs4 := hg2.size
      have hl4 := hb3.grown hg2 (by omega) (fun k hk => by injection hk with hk; omega)
      have HR2 := Lib.hid (HR.out.below hl4)
      have hb4 := hbw.trans (hl4.mono hbw.size)
      clear q0 q1 q2 q3 q4 q5 q6 q7 hb1 hb2 hfr hx1 HX HR hbw hw2 hx2 hg2 hb3 hl0 hl4
      unfold agg5
      dsimp only
      have HNF : Hid (Fixed objs blocks (l.take (k + 1)) (L ++ [⟨f0, f1, f2, ⟨r0, r1, r2, r3, r4⟩⟩])) := Lib.hid (by rw [HT.out]; exact HF.out.snoc HFR.out)
      go_wp2_with (first | (refine store_named (P := Try.prog) rfl 36 (.tmp 21) (.tmp 20) rfl wr.heap.size 3 #[.int .i64 r0, .int .i64 r1, .int .u64 r2, .int .u64 r3, .int .i64 r4] rfl rfl HTH.out info36 (one5 _ _ _ _ _) HW2.out ?_) | (at_builtin; refine Kd.R_append (P := Try.prog) k8 (w0 := w) w.heap.size rfl (.tmp 22) (.tmp 24) 22 38 z38 64 rfl Try.underlying22 info38 rfl (by decide) (by decide) _ L ⟨f0, f1, f2, ⟨r0, r1, r2, r3, r4⟩⟩ _ (fun _ => True) (fun _ => False) rfl rfl (k8_M _ _ _ _) (fun _ h => h.elim) (fun _ _ => trivial) HR2.out hb4 hb4.size ?d1 ?_))
      case d1 => omega
      intro v10 w10 hr10 hb10 _ _
      have HR10 : Hid (R8 w10 w.heap.size v10 (L ++ [⟨f0, f1, f2, ⟨r0, r1, r2, r3, r4⟩⟩])) := Lib.hid hr10
      clear hr10
      go_wp2
      go_roundw
      case rel => exact ⟨k + 1, _, by omega, by go_num, HNF.out, HR10.out, hb10⟩
      case measure => simp [intOf]; omega
    · obtain rfl : k = l.length := by omega
      rw [List.take_length] at hf
      have HF := Lib.hid hf
      have HR := Lib.hid hr
      clear hf hr
      go_wp2
      go_ret
      exact ⟨L, _, HF.out, rfl, HR.out, hbw⟩
end Go.Proofs.Ytgkjhnilgmokiaa.En
