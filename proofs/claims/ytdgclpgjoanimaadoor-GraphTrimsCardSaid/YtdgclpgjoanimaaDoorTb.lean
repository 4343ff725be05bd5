/-
  Rows of bytes of the call's own: one byte more, a string more; a graph's text, in plain lists.
-/
import Derived.Test.YtdgclpgjoanimaaDoorHx
import Derived.Lib.OthersKept
import Derived.Lib.BufferKept
import Derived.Lib.AppendStr
namespace Go.Proofs.YtdgclpgjoanimaaDoor.Tb
open Go.RowKit Go.ChangeShapes Go.WideShapes Go.Proofs.YtdgclpgjoanimaaDoorW.PrintWords Go.Proofs.YtdgclpgjoanimaaDoor.Ba Go.Proofs.YtdgclpgjoanimaaDoor.Ld Go.Proofs.YtdgclpgjoanimaaDoor.Hx
set_option linter.unusedVariables false
set_option linter.unusedSimpArgs false
set_option maxRecDepth 100000
def BR (w : World) (B : Nat) (v : Value) (l : List UInt8) : Prop := w.ownsRow B 5 1 v l.length (l.map byteV)
abbrev Kp (w w' : World) : Prop := Lib.OthersKept 5 none w w'
theorem bsz {w : World} {k : Nat} {o : Obj} (h : w.heap[k]? = some o) : k < w.heap.size := (Array.getElem?_eq_some_iff.1 h).1
theorem Kp.cells {w w' : World} (h : Kp w w') {k : Nat} {cs : Array Value} {t : TypeId} (hc : w.heap[k]? = some (.cells cs t (0, 0))) (ht : t ≠ 5) : w'.heap[k]? = some (.cells cs t (0, 0)) :=
  h k _ hc (by simp) (fun c fz e => ht (by injection e))
theorem kp_below {w w' : World} (h : Below w.heap.size w w') : Kp w w' := fun k o ho _ _ => (h.block k (bsz ho)).trans ho
theorem BR.below {w w' : World} {B : Nat} {v : Value} {l : List UInt8} (h : BR w B v l) (hb : Below w.heap.size w w') : BR w' B v l := own_move h fun k hk => hb.block k (h.lt k hk).2
theorem BR.nil (w : World) (B : Nat) : BR w B (.slice none 0 0) [] := World.ownsRow_nil _ _ _ _
theorem kp_grown {W w1 : World} {B : Nat} {v : Value} {l : List UInt8} (HO : BR W B v l) (hg : W.grownBy w1 v.ownBlock) : Kp W w1 := fun k o ho _ hne =>
  (hg.block k (bsz ho) (fun e => by
    obtain ⟨cells, hc⟩ := own_typed HO k e.symm
    rw [hc] at ho
    injection ho with ho
    exact hne _ _ ho.symm)).trans ho
theorem run_lit (W : World) (B : Nat) (v : Value) (l : List UInt8) (c : UInt8) (g : Nat) (ty : TypeId) (hg : W.heap[g]? = some (.cells #[byteV c] 5 (0, 0))) (HO : BR W B v l) (hB : B ≤ W.heap.size) (hl : l.length + 1 ≤ 140737488355328) :
    ∃ v1 w1, (Builtin.append_ #[47, 47] ty #[v, .slice (some ⟨g, 0, none⟩) 1 1]).run Tryd.prog W = .ok v1 w1 ∧ BR w1 B v1 (l ++ [c]) ∧ W.grownBy w1 v.ownBlock := by
  obtain ⟨i0, hi0, hz0, hz1, hz2⟩ := info_parts info5
  obtain ⟨v1, w1, hr, hown, hg2, _, _⟩ := run_append_own_at (P := Tryd.prog) W B 47 ty 5 i0 (.int .u8 0) 1 1 Tryd.underlying47 hi0 hz0 hz1 hz2 rfl (by decide) v l.length (l.map byteV) HO ⟨g, 0, none⟩ 1 1 [byteV c] rfl
    (by simpa using World.news_of_block (cs := #[byteV c]) (t := 5) (fr := (0, 0)) hg) (by intro u hu; simp only [List.mem_singleton] at hu; subst hu; rfl) (by simp only [maxLen]; omega) (by omega) hB
  refine ⟨v1, w1, hr, ?_, hg2⟩
  unfold BR
  rw [List.length_append, List.map_append]
  exact hown
theorem run_str (W : World) (B : Nat) (v : Value) (l s : List UInt8) (ty : TypeId) (HO : BR W B v l) (hB : B ≤ W.heap.size) (hl : l.length + s.length ≤ 140737488355328) :
    ∃ v1 w1, (Builtin.append_ #[47, 9] ty #[v, .string ⟨s.toArray⟩]).run Tryd.prog W = .ok v1 w1 ∧ BR w1 B v1 (l ++ s) ∧ W.grownBy w1 v.ownBlock := by
  obtain ⟨i0, hi0, hz0, hz1, hz2⟩ := info_parts info5
  have hs : (⟨s.toArray⟩ : ByteArray).size = s.length := by show s.toArray.size = _; rw [List.size_toArray]
  obtain ⟨v1, w1, hr, hown, hg2, _⟩ := Lib.run_append_own_string (P := Tryd.prog) W B 47 9 ty 5 i0 Tryd.underlying47 Tryd.underlying9 hi0 hz0 hz1 hz2 v l.length (l.map byteV) HO ⟨s.toArray⟩ (by rw [hs]; simp only [maxLen]; omega) (by rw [hs]; exact hl) hB
  refine ⟨v1, w1, hr, ?_, hg2⟩
  unfold BR
  rw [List.length_append, List.map_append]
  rw [hs] at hown
  exact hown
section
variable {ops : Array Oper} {rest : List Oper} {o : Oper} {a : Act} {W w0 : World} {Q : Exit → Act → World → Prop} {K : Act → World → Prop}
theorem wp_lit (s x : Operand) (ho : o.op = .call { callee := .builtin .append, args := #[s, x], argTypes := #[47, 47] }) (v : Value) (l : List UInt8) (c : UInt8) (g B : Nat) (hs : a.eval s = v) (hx : a.eval x = .slice (some ⟨g, 0, none⟩) 1 1)
    (hg : W.heap[g]? = some (.cells #[byteV c] 5 (0, 0))) (HO : BR W B v l) (HB : Below B w0 W) (hB : B ≤ w0.heap.size) (hl : l.length + 1 ≤ 140737488355328) (h : ∀ v1 w1, BR w1 B v1 (l ++ [c]) → Below B w0 w1 → Kp W w1 → K (a.put o.dst v1) w1) :
    Oper.wp Tryd.prog o a W K Q := by
  have hbW := Nat.le_trans hB HB.size
  obtain ⟨v1, w1, hr, hown, hg2⟩ := run_lit W B v l c g o.type hg HO hbW hl
  unfold Oper.wp execOp
  simp only [ho, resolve, invoke, builtin, Sem.run_bind, Sem.run_pure, Result.andThen_ok, List.map_toArray, List.map_cons, List.map_nil, hs, hx, hr]
  exact h v1 w1 hown (HB.grown hg2 hbW (own_base HO)) (kp_grown HO hg2)
theorem wp_str (s x : Operand) (ho : o.op = .call { callee := .builtin .append, args := #[s, x], argTypes := #[47, 9] }) (v : Value) (l m : List UInt8) (B : Nat) (hs : a.eval s = v) (hx : a.eval x = .string ⟨m.toArray⟩)
    (HO : BR W B v l) (HB : Below B w0 W) (hB : B ≤ w0.heap.size) (hl : l.length + m.length ≤ 140737488355328) (h : ∀ v1 w1, BR w1 B v1 (l ++ m) → Below B w0 w1 → Kp W w1 → K (a.put o.dst v1) w1) :
    Oper.wp Tryd.prog o a W K Q := by
  have hbW := Nat.le_trans hB HB.size
  obtain ⟨v1, w1, hr, hown, hg2⟩ := run_str W B v l m o.type HO hbW hl
  unfold Oper.wp execOp
  simp only [ho, resolve, invoke, builtin, Sem.run_bind, Sem.run_pure, Result.andThen_ok, List.map_toArray, List.map_cons, List.map_nil, hs, hx, hr]
  exact h v1 w1 hown (HB.grown hg2 hbW (own_base HO)) (kp_grown HO hg2)
theorem st_lit (hw : Region.wanted o (yielded ops a.tmps) = true) (s x : Operand) (ho : o.op = .call { callee := .builtin .append, args := #[s, x], argTypes := #[47, 47] }) (v : Value) (l : List UInt8) (c : UInt8) (g B : Nat) (hs : a.eval s = v) (hx : a.eval x = .slice (some ⟨g, 0, none⟩) 1 1)
    (hg : W.heap[g]? = some (.cells #[byteV c] 5 (0, 0))) (HO : BR W B v l) (HB : Below B w0 W) (hB : B ≤ w0.heap.size) (hl : l.length + 1 ≤ 140737488355328) (h : ∀ v1 w1, BR w1 B v1 (l ++ [c]) → Below B w0 w1 → Kp W w1 → K (a.put o.dst v1) w1) :
    if Region.wanted o (yielded ops a.tmps) = true then Oper.wp Tryd.prog o a W K Q else K (a.put o.dst undef) W := by
  rw [if_pos hw]
  exact wp_lit s x ho v l c g B hs hx hg HO HB hB hl h
theorem st_str (hw : Region.wanted o (yielded ops a.tmps) = true) (s x : Operand) (ho : o.op = .call { callee := .builtin .append, args := #[s, x], argTypes := #[47, 9] }) (v : Value) (l m : List UInt8) (B : Nat) (hs : a.eval s = v) (hx : a.eval x = .string ⟨m.toArray⟩)
    (HO : BR W B v l) (HB : Below B w0 W) (hB : B ≤ w0.heap.size) (hl : l.length + m.length ≤ 140737488355328) (h : ∀ v1 w1, BR w1 B v1 (l ++ m) → Below B w0 w1 → Kp W w1 → K (a.put o.dst v1) w1) :
    if Region.wanted o (yielded ops a.tmps) = true then Oper.wp Tryd.prog o a W K Q else K (a.put o.dst undef) W := by
  rw [if_pos hw]
  exact wp_str s x ho v l m B hs hx HO HB hB hl h
theorem wl_lit (hgd : o.guard = none) (s x : Operand) (ho : o.op = .call { callee := .builtin .append, args := #[s, x], argTypes := #[47, 47] }) (v : Value) (l : List UInt8) (c : UInt8) (g B : Nat) (hs : a.eval s = v) (hx : a.eval x = .slice (some ⟨g, 0, none⟩) 1 1)
    (hg : W.heap[g]? = some (.cells #[byteV c] 5 (0, 0))) (HO : BR W B v l) (HB : Below B w0 W) (hB : B ≤ w0.heap.size) (hl : l.length + 1 ≤ 140737488355328) (h : ∀ v1 w1, BR w1 B v1 (l ++ [c]) → Below B w0 w1 → Kp W w1 → wpList Tryd.prog ops Q rest (a.put o.dst v1) w1) :
    wpList Tryd.prog ops Q (o :: rest) a W := wpList_plain hgd fun _ hK => wp_lit s x ho v l c g B hs hx hg HO HB hB hl fun v1 w1 h1 h2 h3 => hK _ _ (h v1 w1 h1 h2 h3)
theorem wl_str (hgd : o.guard = none) (s x : Operand) (ho : o.op = .call { callee := .builtin .append, args := #[s, x], argTypes := #[47, 9] }) (v : Value) (l m : List UInt8) (B : Nat) (hs : a.eval s = v) (hx : a.eval x = .string ⟨m.toArray⟩)
    (HO : BR W B v l) (HB : Below B w0 W) (hB : B ≤ w0.heap.size) (hl : l.length + m.length ≤ 140737488355328) (h : ∀ v1 w1, BR w1 B v1 (l ++ m) → Below B w0 w1 → Kp W w1 → wpList Tryd.prog ops Q rest (a.put o.dst v1) w1) :
    wpList Tryd.prog ops Q (o :: rest) a W := wpList_plain hgd fun _ hK => wp_str s x ho v l m B hs hx HO HB hB hl fun v1 w1 h1 h2 h3 => hK _ _ (h v1 w1 h1 h2 h3)
end
theorem app_int (B : Nat) (v : Value) (l : List UInt8) (i : Int) (w w0 : World) (h0 : -9223372036854775808 ≤ i) (h1 : i ≤ 9223372036854775807) (HO : BR w B v l) (HB : Below B w0 w) (hB : B ≤ w0.heap.size) (hl : l.length + 21 ≤ 140737488355328) (ht : Lib.TabBelow Tryd.prog B w0 "internal/strconv.uint64pow10" .u64 Lib.pow10Tab) :
    Calls Tryd.prog 26 #[v, .int .i64 i, .int .i64 10] w fun e w' => ∃ v', e = .returned v' ∧ BR w' B v' (l ++ Lib.itoa i) ∧ Below B w0 w' ∧ Kp w w' :=
  (appendInt B l.length i h0 h1 v (l.map byteV) w HO (Nat.le_trans hB HB.size) hl (ht.on HB)).mono fun e w' ⟨v', he, ho, hb, hk⟩ => ⟨v', he, by
    unfold BR
    rw [List.length_append, List.map_append]
    exact ho, HB.trans hb, hk⟩
def fldB (l : List V5) : List UInt8 := (l.map fun v => 32 :: textV v).flatten
def nodeB (x : N2) : List UInt8 := Lib.itoa x.kd ++ (fldB x.fs ++ [10])
def nodesB (l : List N2) : List UInt8 := (l.map nodeB).flatten
def intsB (l : List Int) : List UInt8 := (l.map fun n => 32 :: Lib.itoa n).flatten
def rootsB : List UInt8 := [114, 111, 111, 116, 115]
def weaksB : List UInt8 := [119, 101, 97, 107, 115]
def textG (g : G3) : List UInt8 := (nodesB g.ns ++ (rootsB ++ intsB g.rs ++ [10])) ++ (weaksB ++ intsB g.ws ++ [10])
theorem flat_snoc {α : Type} (f : α → List UInt8) (l : List α) (d : α) (k : Nat) (h : k < l.length) : ((l.take (k + 1)).map f).flatten = ((l.take k).map f).flatten ++ f (l.getD k d) := by
  rw [take_snoc l d k h, List.map_append, List.flatten_append]
  simp
theorem flat_le {α : Type} (f : α → List UInt8) (c : Nat) : ∀ l : List α, (∀ x ∈ l, (f x).length ≤ c) → ((l.map f).flatten).length ≤ c * l.length := by
  intro l
  induction l with
  | nil => intro _; simp
  | cons x l ih =>
    intro h
    have h1 := h x (List.mem_cons_self ..)
    have h2 := ih fun y hy => h y (List.mem_cons_of_mem _ hy)
    rw [List.map_cons, List.flatten_cons, List.length_append, List.length_cons, Nat.mul_add, Nat.mul_one]
    omega
theorem fldB_le {l : List V5} (h : ∀ v ∈ l, ok5 v) : (fldB l).length ≤ 35 * l.length := flat_le _ 35 l fun v hv => by
  have := textV_length v (h v hv)
  simp
  omega
theorem nodeB_le {x : N2} (h : ok2 x) (hf : x.fs.length ≤ 1000) : (nodeB x).length ≤ 35022 := by
  have h1 := fldB_le h.2.2
  obtain ⟨a, b⟩ := i64_bd h.1
  have h2 := Lib.itoa_length_le x.kd a b
  unfold nodeB
  simp only [List.length_append, List.length_cons, List.length_nil]
  omega
theorem nodesB_le {l : List N2} (h : ∀ x ∈ l, ok2 x ∧ x.fs.length ≤ 1000) : (nodesB l).length ≤ 35022 * l.length := flat_le _ _ l fun x hx => nodeB_le (h x hx).1 (h x hx).2
theorem intsB_le {l : List Int} (h : ∀ x ∈ l, wf64 x) : (intsB l).length ≤ 22 * l.length := flat_le _ 22 l fun x hx => by
  obtain ⟨a, b⟩ := i64_bd (h x hx)
  have := Lib.itoa_length_le x a b
  simp
  omega
end Go.Proofs.YtdgclpgjoanimaaDoor.Tb
