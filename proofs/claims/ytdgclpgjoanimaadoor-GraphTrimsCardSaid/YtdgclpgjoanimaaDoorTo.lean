/- Rows of values and of nodes of the call's own; told, moved. -/
import Derived.Test.YtdgclpgjoanimaaDoorRe
namespace Go.Proofs.YtdgclpgjoanimaaDoor.To
open Go.RowKit Go.ChangeShapes Go.WideShapes Go.Proofs.YtdgclpgjoanimaaDoorW.PrintWords Go.Proofs.YtdgclpgjoanimaaDoor.Ba Go.Proofs.YtdgclpgjoanimaaDoor.Ma Go.Proofs.YtdgclpgjoanimaaDoor.Mb Go.Proofs.YtdgclpgjoanimaaDoor.Pu Go.Proofs.YtdgclpgjoanimaaDoor.Wa
set_option linter.unusedVariables false
theorem k5_K (w : World) (x : V5) : k5.K w x x.cs :=
  ⟨[_], _, rfl, rfl, ⟨[_], _, rfl, rfl, ⟨[_], _, rfl, rfl, ⟨[_], _, rfl, rfl, rfl⟩⟩⟩⟩
theorem k5_KM {w W : World} {base : Nat} {ok : Nat → Prop} {x : V5} {cs : List Value} (h : k5.K w x cs) : k5.M W base ok x cs := h
theorem k5_M (W : World) (base : Nat) (ok : Nat → Prop) (x : V5) : k5.M W base ok x x.cs := k5_KM (k5_K W x)
def zV : Value := .agg #[.int .i64 0, .int .i64 0, .int .u64 0, .int .u64 0, .int .i64 0]
theorem info5 : (Tryd.prog.info? 36).map (fun i => (i.zero, i.size, i.bytes)) = some (some zV, k5.sz, 40) := by kernel_rfl
def zNd : Value := .agg #[.int .i64 0, .slice none 0 0]
theorem infoN : (Tryd.prog.info? 33).map (fun i => (i.zero, i.size, i.bytes)) = some (some zNd, k2.sz, 32) := by kernel_rfl
/-- A row of values of the call's own. -/
def R5 (w : World) (base : Nat) (v : Value) (l : List V5) : Prop := k5.R 36 w base (fun _ => True) v l
/-- A row of nodes of the call's own. -/
def R2 (w : World) (base : Nat) (v : Value) (l : List N2) : Prop := k2.R 33 w base (fun _ => True) v l
theorem R5.nil (w : World) (base : Nat) : R5 w base (.slice none 0 0) [] := Kd.R_nil _ _ _ _ _
theorem R2.nil (w : World) (base : Nat) : R2 w base (.slice none 0 0) [] := Kd.R_nil _ _ _ _ _
theorem R5.below {w w' : World} {base : Nat} {v : Value} {l : List V5} (h : R5 w base v l) (hb : Below w.heap.size w w') : R5 w' base v l := Kd.R_below h hb
theorem R2.below {w w' : World} {base : Nat} {v : Value} {l : List N2} (h : R2 w base v l) (hb : Below w.heap.size w w') : R2 w' base v l := Kd.R_below h hb
theorem R5.reads {w : World} {base : Nat} {v : Value} {l : List V5} (h : R5 w base v l) : ∃ A c, v = .slice A l.length c ∧ l.length ≤ c ∧ Fv w A l := by
  obtain ⟨A, c, e, hl, hC⟩ := Kd.R_reads h
  exact ⟨A, c, e, hl, fd_C hC (Nat.le_refl _)⟩
theorem R2.reads {w : World} {base : Nat} {v : Value} {l : List N2} (h : R2 w base v l) : ∃ A c, v = .slice A l.length c ∧ l.length ≤ c ∧ Nv w A l := by
  obtain ⟨A, c, e, hl, hC⟩ := Kd.R_reads h
  exact ⟨A, c, e, hl, nd_C hC (Nat.le_refl _)⟩
theorem R5.lt {w : World} {base : Nat} {v : Value} {l : List V5} (h : R5 w base v l) (k : Nat) (hk : v.ownBlock = some k) : base ≤ k ∧ k < w.heap.size := ⟨Kd.R_base h k hk, Kd.R_lt h k hk⟩
theorem R2.lt {w : World} {base : Nat} {v : Value} {l : List N2} (h : R2 w base v l) (k : Nat) (hk : v.ownBlock = some k) : base ≤ k ∧ k < w.heap.size := ⟨Kd.R_base h k hk, Kd.R_lt h k hk⟩
theorem R5.ne {w : World} {base : Nat} {v : Value} {l : List V5} (h : R5 w base v l) {g t : Nat} {cells : Array Value} (hb : w.heap[g]? = some (.cells cells t (0, 0))) (ht : 36 ≠ t) : v.ownBlock ≠ some g := fun e => Kd.R_ne h hb ht e.symm
theorem R2.ne {w : World} {base : Nat} {v : Value} {l : List N2} (h : R2 w base v l) {g t : Nat} {cells : Array Value} (hb : w.heap[g]? = some (.cells cells t (0, 0))) (ht : 33 ≠ t) : v.ownBlock ≠ some g := fun e => Kd.R_ne h hb ht e.symm
def toldP (pl : List Int) (v : V5) : V5 := if v.kd = 1 then ⟨1, v.n, 0, 0, 0⟩ else if v.kd = 2 then ⟨2, 0, v.re, v.im, 0⟩ else if v.kd = 3 then ⟨3, 0, 0, 0, pl.getD v.ref.toNat 0⟩ else z5
def ToldPost (pl : List Int) (v : V5) (w : World) (e : Ending) (w' : World) : Prop := e = .returned (agg5 (toldP pl v)) ∧ Below w.heap.size w w'
set_option maxHeartbeats 4000000 in
theorem told_any (v : V5) (A : Option Addr) (c : Nat) (pl : List Int) (w : World) (hp : Rd w A pl) (hv : v.kd = 3 → 0 ≤ v.ref ∧ v.ref < (pl.length : Int)) (hpl : pl.length ≤ 100000) : Calls Tryd.prog 24 #[agg5 v, .slice A pl.length c] w (ToldPost pl v w) := by
  obtain ⟨f0, f1, f2, f3, f4⟩ := v
  unfold agg5
  dsimp only at hv ⊢
  have hz : ∀ w, (zeroValue 36).run Tryd.prog w = .ok (.agg #[.int .i64 0, .int .i64 0, .int .u64 0, .int .u64 0, .int .i64 0]) w := fun w => by kernel_rfl
  have HB := Lib.hid (((Below.refl w.heap.size w).alloc (Nat.le_refl _) (.cells #[.int .i64 f0, .int .i64 f1, .int .u64 f2, .int .u64 f3, .int .i64 f4] 36)))
  have HP := Lib.hid hp
  by_cases e1 : f0 = 1
  · subst e1
    have HT : Hid (toldP pl ⟨1, f1, f2, f3, f4⟩ = ⟨1, f1, 0, 0, 0⟩) := Lib.hid rfl
    clear hv hp
    go_enter Tryd.func24, Tryd.ntmps24
    go_wp2
    exact bodyPost_ret (v := agg5 ⟨1, f1, 0, 0, 0⟩) (by simp [results, Tryd.results24, go_sem, agg5]) rfl ⟨by rw [HT.out], (((Below.refl _ _).alloc (Nat.le_refl _) _).alloc (by simp) _)⟩
  · by_cases e2 : f0 = 2
    · subst e2
      have HT : Hid (toldP pl ⟨2, f1, f2, f3, f4⟩ = ⟨2, 0, f2, f3, 0⟩) := Lib.hid rfl
      clear hv hp
      go_enter Tryd.func24, Tryd.ntmps24
      go_wp2
      exact bodyPost_ret (v := agg5 ⟨2, 0, f2, f3, 0⟩) (by simp [results, Tryd.results24, go_sem, agg5]) rfl ⟨by rw [HT.out], (((Below.refl _ _).alloc (Nat.le_refl _) _).alloc (by simp) _)⟩
    · by_cases e3 : f0 = 3
      · subst e3
        obtain ⟨h0, h1⟩ := hv rfl
        obtain ⟨k, rfl⟩ : ∃ k : Nat, f4 = (k : Int) := ⟨f4.toNat, by omega⟩
        have hk : k < pl.length := by omega
        have HT : Hid (toldP pl ⟨3, f1, f2, f3, (k : Int)⟩ = ⟨3, 0, 0, 0, pl.getD k 0⟩) := Lib.hid (by unfold toldP; simp)
        obtain ⟨ad, rfl, hc⟩ := (HP.out.below (((Below.refl w.heap.size w).alloc (Nat.le_refl _) (.cells #[.int .i64 3, .int .i64 f1, .int .u64 f2, .int .u64 f3, .int .i64 (k : Int)] 36)).alloc (by simp) (.cells #[.int .i64 0, .int .i64 0, .int .u64 0, .int .u64 0, .int .i64 0] 36)).block) k hk
        obtain ⟨y, hy⟩ : ∃ y, pl.getD k 0 = y := ⟨_, rfl⟩
        rw [hy] at hc HT
        clear hv hp hy
        go_enter Tryd.func24, Tryd.ntmps24
        go_wp2
        exact bodyPost_ret (v := agg5 ⟨3, 0, 0, 0, y⟩) (by simp [results, Tryd.results24, go_sem, agg5]) rfl ⟨by rw [HT.out], (((Below.refl _ _).alloc (Nat.le_refl _) _).alloc (by simp) _)⟩
      · have HT : Hid (toldP pl ⟨f0, f1, f2, f3, f4⟩ = z5) := Lib.hid (by unfold toldP; dsimp only; rw [if_neg e1, if_neg e2, if_neg e3])
        have b1 : (f0 == 1) = false := by rw [beq_eq_false_iff_ne]; exact e1
        have b2 : (f0 == 2) = false := by rw [beq_eq_false_iff_ne]; exact e2
        have b3 : (f0 == 3) = false := by rw [beq_eq_false_iff_ne]; exact e3
        clear hv hp e1 e2 e3
        go_enter Tryd.func24, Tryd.ntmps24
        go_wp2
        exact bodyPost_ret (v := agg5 z5) (by simp [results, Tryd.results24, go_sem, agg5, z5]) rfl ⟨by rw [HT.out], (((Below.refl _ _).alloc (Nat.le_refl _) _).alloc (by simp) _)⟩
def mv (pl : List Int) (x : Int) : Int := if 0 ≤ x then pl.getD x.toNat 0 else x
def movedL (pl l : List Int) : List Int := l.map (mv pl)
set_option maxHeartbeats 4000000 in
theorem moved_any (A P : Option Addr) (c cp : Nat) (l pl : List Int) (w : World) (hl : Rd w A l) (hp : Rd w P pl) (hv : ∀ x ∈ l, x < (pl.length : Int)) (hll : l.length ≤ 10000) (hpl : pl.length ≤ 100000) :
    Calls Tryd.prog 25 #[.slice A l.length c, .slice P pl.length cp] w (Own w (movedL pl l)) := by
  have HL := Lib.hid hl
  have HP := Lib.hid hp
  have HV := Lib.hid hv
  clear hl hp hv
  go_enter Tryd.func25, Tryd.ntmps25
  go_wp2
  go_loopw [5, 10] (fun v i wr => ∃ k : Nat, k ≤ l.length ∧ i = .int .i64 (k : Int) ∧ wr.ownsRow w.heap.size 3 1 v (movedL pl (l.take k)).length ((movedL pl (l.take k)).map (Value.int .i64)) ∧ Below w.heap.size w wr) (fun _ i _ => l.length - (intOf i).toNat)
  case atStart => exact ⟨0, by omega, rfl, own_nil _ _ _, Below.refl _ _⟩
  case round =>
    obtain ⟨k, hk, rfl, ho, hb⟩ := hrel
    obtain ⟨M, hM⟩ : ∃ M, movedL pl (l.take k) = M := ⟨_, rfl⟩
    rw [hM] at ho
    have hMl : M.length ≤ 10000 := by rw [← hM]; simp [movedL]; omega
    have HM := Lib.hid hM
    clear hM
    have HO := Lib.hid ho
    have HB := Lib.hid hb
    have hbs := hb.size
    obtain ⟨_, A5, c5, rfl, _⟩ := own_rd ho
    clear ho
    by_cases hlt : k < l.length
    · obtain ⟨ad, rfl, hc⟩ := (HL.out.below hb.block) k hlt
      have HE : Hid (movedL pl (l.take (k + 1)) = M ++ [mv pl (l.getD k 0)]) := Lib.hid (by rw [← HM.out, take_snoc l 0 k hlt, movedL, List.map_append]; rfl)
      have hx := HV.out _ (mem_getD (d := (0 : Int)) hlt)
      obtain ⟨x, hxe⟩ : ∃ x, l.getD k 0 = x := ⟨_, rfl⟩
      rw [hxe] at hc HE hx
      clear hxe
      by_cases h0 : 0 ≤ x
      · obtain ⟨j, rfl⟩ : ∃ j : Nat, x = (j : Int) := ⟨x.toNat, by omega⟩
        have hj : j < pl.length := by omega
        have e1 : mv pl (j : Int) = pl.getD j 0 := by unfold mv; rw [if_pos h0, Int.toNat_natCast]
        rw [e1] at HE
        obtain ⟨ad2, rfl, hc2⟩ := (HP.out.below hb.block) j hj
        obtain ⟨y, hy⟩ : ∃ y, pl.getD j 0 = y := ⟨_, rfl⟩
        rw [hy] at HE hc2
        have HR1 := Lib.hid (one_row wr y)
        clear hy e1
        go_wp2_with (at_builtin; refine print_append_row_of (P := Tryd.prog) (w0 := w) (W := wr.alloc (.cells #[.int .i64 y] 3)) (Value.int .i64) 0 w.heap.size rfl (.tmp 20) (.tmp 22) 23 3 (.int .i64 0) 8 rfl Tryd.underlying23 info3 rfl (by decide) (fun _ => rfl) _ M [y] _ 1 1 rfl rfl (HO.out.alloc _) HR1.out (HB.out.alloc hbs _) (by rw [size_al]; omega) ?c1 ?_)
        case c1 => omega
        intro v3 w3 ho3 hb3 _ _
        have HO3 : Hid (w3.ownsRow w.heap.size 3 1 v3 (movedL pl (l.take (k + 1))).length ((movedL pl (l.take (k + 1))).map (Value.int .i64))) := Lib.hid (by rw [HE.out, List.length_append]; exact ho3)
        clear ho3
        go_wp2
        go_roundw
        case rel => exact ⟨k + 1, by omega, by go_num, HO3.out, hb3⟩
        case measure => simp [intOf]; omega
      · have e1 : mv pl x = x := by unfold mv; rw [if_neg h0]
        rw [e1] at HE
        have HR1 := Lib.hid (one_row wr x)
        clear e1
        go_wp2_with (at_builtin; refine print_append_row_of (P := Tryd.prog) (w0 := w) (W := wr.alloc (.cells #[.int .i64 x] 3)) (Value.int .i64) 0 w.heap.size rfl (.tmp 20) (.tmp 22) 23 3 (.int .i64 0) 8 rfl Tryd.underlying23 info3 rfl (by decide) (fun _ => rfl) _ M [x] _ 1 1 rfl rfl (HO.out.alloc _) HR1.out (HB.out.alloc hbs _) (by rw [size_al]; omega) ?c1 ?_)
        case c1 => omega
        intro v3 w3 ho3 hb3 _ _
        have HO3 : Hid (w3.ownsRow w.heap.size 3 1 v3 (movedL pl (l.take (k + 1))).length ((movedL pl (l.take (k + 1))).map (Value.int .i64))) := Lib.hid (by rw [HE.out, List.length_append]; exact ho3)
        clear ho3
        go_wp2
        go_roundw
        case rel => exact ⟨k + 1, by omega, by go_num, HO3.out, hb3⟩
        case measure => simp [intOf]; omega
    · obtain rfl : k = l.length := by omega
      have HM2 := Lib.hid HM.out
      rw [List.take_length] at HM2
      go_wp2
      go_ret
      rw [HM2.out]
      exact ⟨_, rfl, HO.out, HB.out⟩
theorem ref_any (x : Int) (w : World) : Calls Tryd.prog 22 #[.int .i64 x] w fun e w' => e = .returned (agg5 ⟨3, 0, 0, 0, x⟩) ∧ Below w.heap.size w w' := by
  have hz : ∀ w, (zeroValue 36).run Tryd.prog w = .ok (.agg #[.int .i64 0, .int .i64 0, .int .u64 0, .int .u64 0, .int .i64 0]) w := fun w => by kernel_rfl
  go_enter Tryd.func22, Tryd.ntmps22
  go_wp2
  exact bodyPost_ret (v := agg5 ⟨3, 0, 0, 0, x⟩) (by simp [results, Tryd.results22, go_sem, agg5]) rfl ⟨rfl, (Below.refl _ _).alloc (Nat.le_refl _) _⟩
end Go.Proofs.YtdgclpgjoanimaaDoor.To
