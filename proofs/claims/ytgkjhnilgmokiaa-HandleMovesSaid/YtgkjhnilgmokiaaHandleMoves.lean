/-
  Of HandleMoves: the table's contracts (Ha) over the objects that the argument tells; moved there and back.
-/
import Derived.Test.YtgkjhnilgmokiaaRows
import Derived.WalkKit
import Derived.WalkSpells
import Derived.WalkLawsBesides
import Derived.WalkMore
import Derived.ProofKit
import Derived.OpenShut
import Derived.ShutString
import Derived.ChangeOld
import Derived.Below
import Derived.SizedLaws
import Derived.Lib.Hide
import Derived.Test.YtgkjhnilgmokiaaOpen
import Derived.Test.YtgkjhnilgmokiaaH
namespace Go.Proofs.Ytgkjhnilgmokiaa.handleMoves
open Go.RowKit Go.ChangeShapes Go.WideShapes Go.ChangeAt Go.Proofs.YtgkjhnilgmokiaaW.PrintWords
set_option linter.unusedVariables false
open Ha
theorem C_int {k : IntKind} {w : World} {A : Option Addr} {n : Nat} {xs : List Int} (h : Kd.C (Kd.int k) w A n xs) (i : Nat) (hi : i < n) : ∃ ad, A = some ad ∧ w.cell? (ad.add i) = some (.int k (xs.getD i 0)) := by
  obtain ⟨ad, c, e, _, hK, hc⟩ := Kd.C_get h (0 : Int) i (by omega) (by omega)
  obtain rfl : c = [.int k (xs.getD i 0)] := hK
  refine ⟨ad, e, ?_⟩
  have := hc 0 _ rfl
  rw [Nat.add_zero, Int.toNat_natCast] at this
  have hs : (Kd.int k).sz = 1 := rfl
  rw [hs, Nat.mul_one] at this
  exact this
def O (x : Nat → Int) (k : Nat) (i : Nat) : Int := if i < k then x i else 0
def Un (k : Nat) (i : Nat) : Bool := decide (i < k)
def Cn (x : Nat → Int) (f : Int) (k : Nat) : Nat := ((List.range k).filter fun i => decide (x i = f)).length
def Hs (x : Nat → Int) (t : Int) (k : Nat) : Bool := (List.range k).any fun i => decide (x i = t)
theorem Cn_le (x : Nat → Int) (f : Int) (k : Nat) : Cn x f k ≤ k := by
  have := List.length_filter_le (fun i => decide (x i = f)) (List.range k)
  simpa [Cn] using this
theorem Cn_yes {x : Nat → Int} {f : Int} {k : Nat} (h : x k = f) : Cn x f (k + 1) = Cn x f k + 1 := by simp [Cn, List.range_succ, h]
theorem Cn_no {x : Nat → Int} {f : Int} {k : Nat} (h : x k ≠ f) : Cn x f (k + 1) = Cn x f k := by simp [Cn, List.range_succ, h]
theorem Hs_yes {x : Nat → Int} {f : Int} {k : Nat} (h : x k = f) : Hs x f (k + 1) = true := by simp [Hs, List.range_succ, h]
theorem Hs_no {x : Nat → Int} {f : Int} {k : Nat} (h : x k ≠ f) : Hs x f (k + 1) = Hs x f k := by simp [Hs, List.range_succ, h]
theorem Hs_not {x : Nat → Int} {f : Int} {k : Nat} (h : Hs x f k = false) (i : Nat) (hi : i < k) : x i ≠ f := by
  intro e
  have : Hs x f k = true := by
    unfold Hs
    rw [List.any_eq_true]
    exact ⟨i, List.mem_range.2 hi, decide_eq_true e⟩
  rw [h] at this; cases this
theorem o_next (x : Nat → Int) (k : Nat) : upd (O x k) k (x k) = O x (k + 1) := by
  funext i; unfold upd O
  by_cases h : i = k
  · subst h; simp
  · by_cases h2 : i < k
    · rw [if_neg h, if_pos h2, if_pos (by omega)]
    · rw [if_neg h, if_neg h2, if_neg (by omega)]
theorem u_next (k : Nat) : upd (Un k) k true = Un (k + 1) := by
  funext i
  by_cases h : i = k
  · subst h; simp [upd, Un]
  · simp only [upd, if_neg h, Un]
    exact decide_eq_decide.2 (by omega)
theorem count1 (x : Nat → Int) (f : Int) (m n : Nat) : movN (O x m) (Un m) f n = Cn x f (min n m) := by
  induction n with
  | zero => simp [movN, Cn]
  | succ n ih =>
    by_cases h : n < m
    · have e1 : min (n + 1) m = n + 1 := by omega
      have e2 : min n m = n := by omega
      rw [e2] at ih
      rw [e1]
      have hu : Un m n = true := decide_eq_true h
      have ho : O x m n = x n := if_pos h
      by_cases hx : x n = f
      · rw [movN_yes hu (ho.trans hx), Cn_yes hx, ih]
      · rw [movN_no (.inr (fun e => hx (ho.symm.trans e))), Cn_no hx, ih]
    · have e1 : min (n + 1) m = min n m := by omega
      rw [e1, ← ih, movN_no (.inl (decide_eq_false h))]
theorem moved_at (x : Nat → Int) (m : Nat) (f t : Int) (i : Nat) (h : i < m) (hm : m ≤ 64) : movO (O x m) (Un m) f t 64 i = if x i = f then t else x i := by
  have hu : Un m i = true := decide_eq_true h
  have ho : O x m i = x i := if_pos h
  unfold movO
  rw [hu, ho]
  by_cases hx : x i = f
  · rw [if_pos ⟨by omega, rfl, hx⟩, if_pos hx]
  · rw [if_neg (fun e => hx e.2.2), if_neg hx]
theorem count2 (x : Nat → Int) (f t : Int) (m n : Nat) (hm : m ≤ 64) (hne : f ≠ t) (hs : Hs x t m = false) : movN (movO (O x m) (Un m) f t 64) (Un m) t n = Cn x f (min n m) := by
  induction n with
  | zero => simp [movN, Cn]
  | succ n ih =>
    by_cases h : n < m
    · have e1 : min (n + 1) m = n + 1 := by omega
      have e2 : min n m = n := by omega
      rw [e2] at ih
      rw [e1]
      have hu : Un m n = true := decide_eq_true h
      have ho := moved_at x m f t n h hm
      by_cases hx : x n = f
      · rw [if_pos hx] at ho
        rw [movN_yes hu ho, Cn_yes hx, ih]
      · rw [if_neg hx] at ho
        rw [movN_no (.inr (fun e => Hs_not hs n h (ho.symm.trans e))), Cn_no hx, ih]
    · have e1 : min (n + 1) m = min n m := by omega
      rw [e1, ← ih, movN_no (.inl (decide_eq_false h))]
theorem slot_small (d : Nat) (h : d < 64) : IsSlot (d : Int) d 0 := by
  refine ⟨by omega, by omega, by omega, ?_⟩
  rw [Int.tdiv_eq_ediv_of_nonneg (by omega)]
  unfold wrap64
  omega
theorem own' {w : World} : ∀ (k : Nat), some w.heap.size = some k → w.heap.size ≤ k := fun k hk => by injection hk with hk; omega
theorem walk (w : World) (A0 : Option Addr) (c0 : Nat) (x0 : List Int) (hc0 : x0.length ≤ c0) (hr0 : Kd.C (Kd.int .i64) w A0 x0.length x0) (ok0 : x0.length ≤ maxLen ∧ ∀ y ∈ x0, (Lit.int .i64 y).wf = true) (a1 : Int) (w1 : (Lit.int .i64 a1).wf = true) (a2 : Int) (w2 : (Lit.int .i64 a2).wf = true) :
    Calls Try.prog 9 #[.slice A0 x0.length c0, .int .i64 a1, .int .i64 a2] w fun e w' => e = .returned (.bool true) ∧ Below w.heap.size w w' := by
  have HR := Lib.hid hr0
  clear w1 w2 hr0 ok0
  go_enter Try.func9, Try.ntmps9
  go_wp2_with fail
  refine (new_any _).mono ?_
  rintro e w' ⟨rfl, rfl⟩
  have h0 : Tab (w.alloc (.cells tab0 76)) w.heap.size (fun _ => 0) (fun _ => false) (fun _ => 0) := heap_alloc_new w _
  have hb0 : Below w.heap.size w (w.alloc (.cells tab0 76)) := (Below.refl _ _).alloc (Nat.le_refl _) _
  have HT := Lib.hid h0
  clear h0
  go_wp2
  generalize hX : (fun i : Nat => x0.getD i 0) = X
  go_loopw [8, 9, 21] (fun n h i wr => ∃ k : Nat, k ≤ x0.length ∧ k ≤ 64 ∧ i = .int .i64 (k : Int) ∧ n = .int .i64 (Cn X a1 k : Int) ∧ h = .bool (Hs X a2 k) ∧ Tab wr w.heap.size (O X k) (Un k) (fun _ => 0) ∧ Below w.heap.size w wr) (fun _ _ i _ => x0.length - (intOf i).toNat)
  case atStart =>
    refine ⟨0, by omega, by omega, rfl, rfl, rfl, ?_, hb0⟩
    have e1 : O X 0 = fun _ => 0 := funext fun i => if_neg (by omega)
    have e2 : Un 0 = fun _ => false := funext fun i => decide_eq_false (by omega)
    rw [e1, e2]; exact HT.out
  case round =>
    obtain ⟨k, hk, hk64, rfl, rfl, rfl, hT, hb⟩ := hrel
    have HT' := Lib.hid hT
    have hcn := Cn_le X a1 k
    clear hT HT
    by_cases hlt : k < x0.length ∧ k < 64
    · obtain ⟨ad, rfl, hc⟩ := C_int (Kd.C_below HR.out hb) k hlt.1
      have eX : x0.getD k 0 = X k := by rw [← hX]
      rw [eX] at hc
      have hl1 := hlt.1
      have hl2 := hlt.2
      clear hlt eX hX
      go_wp2_with fail
      refine (put_free _ _ _ _ (X k) _ HT'.out k hl2 (decide_eq_false (by omega)) (fun j hj => decide_eq_true hj) (by omega) (by omega)).mono ?_
      rintro e w1 ⟨rfl, h1, g1⟩
      rw [o_next, u_next] at h1
      have hb1 := hb.grown g1 hb.size own'
      have H1 := Lib.hid h1
      clear h1 g1
      have q1 : Cn X a1 (k + 1) = if (X k == a1) = true then Cn X a1 k + 1 else Cn X a1 k := by
        by_cases e : X k = a1
        · rw [if_pos (beq_iff_eq.2 e), Cn_yes e]
        · rw [if_neg (fun h => e (beq_iff_eq.1 h)), Cn_no e]
      have q2 : Hs X a2 (k + 1) = (Hs X a2 k || (X k == a2)) := by
        by_cases e : X k = a2
        · rw [Hs_yes e, beq_iff_eq.2 e, Bool.or_true]
        · rw [Hs_no e, beq_eq_false_iff_ne.2 e, Bool.or_false]
      cases e1 : (X k == a1)
      all_goals
        cases e2 : (X k == a2)
        all_goals
          cases e3 : Hs X a2 k
          all_goals
            rw [e1] at q1
            rw [e2, e3] at q2
            have Q1 := Lib.hid q1
            have Q2 := Lib.hid q2
            clear q1 q2 HT'
            go_wp2
            go_roundw
            case rel =>
              have q1 := Q1.out
              have q2 := Q2.out
              simp at q1 q2
              exact ⟨k + 1, by omega, by omega, by go_num, by rw [q1] <;> simp, by rw [q2], H1.out, hb1⟩
            case measure => simp [intOf]; omega
    · have hx : x0.length ≤ k ∨ (k < x0.length ∧ 64 ≤ k) := by omega
      have em : min 64 k = k := by omega
      clear hlt
      rcases hx with hx1 | ⟨hx1, hx2⟩
      have c22 : decide ((k : Int) < (x0.length : Int)) = false := decide_eq_false (by omega)
      rotate_left
      obtain ⟨ad, rfl, hc⟩ := C_int (Kd.C_below HR.out hb) k hx1
      have c64 : decide ((64 : Int) ≤ (k : Int)) = true := decide_eq_true (by omega)
      have c22 : decide ((k : Int) < (x0.length : Int)) = true := decide_eq_true (by omega)
      all_goals
        go_wp2_with fail
        refine (move_any _ _ _ _ _ _ _ HT'.out).mono ?_
        rintro e w1 ⟨rfl, h1, g1⟩
        rw [count1, em]
        have hb1 := hb.grown g1 hb.size own'
        have H1 := Lib.hid h1
        have EM := Lib.hid em
        clear h1 g1 HT' em hb
        go_wp2
        clear c22
        try clear c64 hc
        go_loopw [56] (fun i wr => ∃ j : Nat, j ≤ k ∧ i = .int .i64 (j : Int) ∧ wr = w1) (fun i _ => k - (intOf i).toNat)
        case atStart => exact ⟨0, by omega, rfl, rfl⟩
        case round =>
          obtain ⟨j, hj, rfl, rfl⟩ := hrel
          by_cases hjk : j < k
          · have hjl : j < x0.length := by omega
            have hj64 : j < 64 := by omega
            have hm := moved_at X k a1 a2 j hjk hk64
            have hu : Un k j = true := decide_eq_true hjk
            obtain ⟨ad, eA, hcj⟩ := C_int (Kd.C_below HR.out hb1) j hjl
            cases eA
            have eX : x0.getD j 0 = X j := by rw [← hX]
            rw [eX] at hcj
            have HM := Lib.hid hm
            have HU := Lib.hid hu
            have cne : ∀ z : Int, (z != z) = false := fun z => by rw [bne_eq_false_iff_eq]
            clear eX hX hm hu
            cases e1 : (X j == a1)
            · have e2 : X j ≠ a1 := beq_eq_false_iff_ne.1 e1
              go_wp2_with fail
              refine (get_yes _ _ _ _ (j : Int) j _ H1.out (slot_small j hj64) HU.out).mono ?_
              rintro e w2 ⟨rfl, rfl⟩
              rw [HM.out, if_neg e2]
              go_wp2
              go_roundw
              case rel => exact ⟨j + 1, by omega, by go_num, trivial⟩
              case measure => simp [intOf]; omega
            · have e2 : X j = a1 := beq_iff_eq.1 e1
              go_wp2_with fail
              refine (get_yes _ _ _ _ (j : Int) j _ H1.out (slot_small j hj64) HU.out).mono ?_
              rintro e w2 ⟨rfl, rfl⟩
              rw [HM.out, if_pos e2]
              go_wp2
              go_roundw
              case rel => exact ⟨j + 1, by omega, by go_num, trivial⟩
              case measure => simp [intOf]; omega
          · obtain rfl : j = k := by omega
            have hc2 := fun h : j < x0.length => C_int (Kd.C_below HR.out hb1) j h
            rcases Nat.lt_or_ge j x0.length with hx3 | hx3
            obtain ⟨ad2, e2, hc3⟩ := hc2 hx3
            cases e2
            all_goals
              clear hc2
            all_goals try (exfalso; omega)
            all_goals
              cases e5 : (a1 == a2)
              · cases e6 : Hs X a2 j
                · have q2 := count2 X a1 a2 j 64 hk64 (beq_eq_false_iff_ne.1 e5) e6
                  rw [EM.out] at q2
                  have Q2 := Lib.hid q2
                  clear q2
                  go_wp2_with fail
                  refine (move_any _ _ _ _ _ _ _ H1.out).mono ?_
                  rintro e w2 ⟨rfl, h2, g2⟩
                  rw [Q2.out]
                  have hb2 := hb1.grown g2 hb1.size own'
                  clear h2 g2
                  go_wp2_with fail
                  refine (awake_any _).mono ?_
                  rintro e w5 ⟨rfl, hb6⟩
                  have hb7 := hb2.trans (hb6.mono hb2.size)
                  go_wp2
                  go_ret
                  exact ⟨rfl, hb7⟩
                · go_wp2_with fail
                  refine (awake_any _).mono ?_
                  rintro e w5 ⟨rfl, hb6⟩
                  have hb7 := hb1.trans (hb6.mono hb1.size)
                  go_wp2
                  go_ret
                  exact ⟨rfl, hb7⟩
              · go_wp2_with fail
                refine (awake_any _).mono ?_
                rintro e w5 ⟨rfl, hb6⟩
                have hb7 := hb1.trans (hb6.mono hb1.size)
                go_wp2
                go_ret
                exact ⟨rfl, hb7⟩

theorem own : ownKnob Try.prog.godebug = none := by kernel_rfl
theorem laidOut : laidOutB Try.prog = true := by kernel_rfl
set_option maxRecDepth 100000 in
theorem lifted (os : Os) (started : os.Started) (H : Type) (enc : TypeId × Value → H) :
    ReturnsInHanded {} Try.checked os 9 .any (Rows.handleMovesSpec.pre6 enc Try.prog Try.f9 Rows.handleMovesRow.domain false) (Rows.handleMovesSpec.post enc Try.prog Try.f9 false true false false) := by
  refine returnsInHanded_of_change (C := Try.checked) own started (by kernel_rfl) Try.func9
    (ChangeSpec.witness6 (enc := enc) (C := Try.checked) false ⟨#[], #[.slice none 0 0, .int .i64 0, .int .i64 0], []⟩ 8 (by kernel_rfl) (by kernel_rfl) (by kernel_rfl) (by kernel_rfl)) ?_
  intro W base args ds gs before hval0 hW hcnd _
  have hval : ∀ (j : Nat) t v, Try.f9.params[j]? = some t → args[j]? = some v → Value.okWide Try.prog W .any base t v := hval0
  have hW' := hW
  obtain ⟨p, q, hA0, hV, rfl, hfz, hnd⟩ := hW
  have hA : DataW.TrodAll enc Try.prog W 0 (fun _ => true) true Try.f9.params.toList args.toList ds p := hA0
  rw [Try.params9] at hA hval
  obtain ⟨v0, vs0, d0, ds0, p0, q0, hargs, rfl, rfl, h0, r0⟩ := trodAll_cons hA
  obtain ⟨v1, vs1, d1, ds1, p1, q1, rfl, rfl, rfl, h1, r1⟩ := trodAll_cons r0
  obtain ⟨v2, vs2, d2, ds2, p2, q2, rfl, rfl, rfl, h2, r2⟩ := trodAll_cons r1
  obtain ⟨rfl, rfl, rfl⟩ := trodAll_nil r2
  obtain rfl : args = #[v0, v1, v2] := by cases args; simp_all
  obtain ⟨rfl, rfl⟩ := trodVars_none hV
  obtain ⟨a0, len0, cap0, rfl⟩ := okWide_slice Try.underlying27 (hval 0 27 v0 rfl rfl)
  have k0 := h0
  have lt0 : ∀ x ∈ p0, x.block < W.heap.size := by obtain ⟨m, hm⟩ := k0; exact DataW.trod_lt m _ _ _ hm
  obtain ⟨fuel0, hf0⟩ := h0
  obtain ⟨x0, ⟨A0, c0, e0, hc0, hr0⟩, ok0⟩ := Op.opens_slice (n := 3) Try.underlying27 (by kernel_rfl) (Op.opens_int Try.underlying3) H enc W 0 _ _ _ _ _ hf0
  obtain ⟨rfl, rfl, rfl⟩ : a0 = A0 ∧ len0 = x0.length ∧ cap0 = c0 := by simpa [Value.cells] using e0
  obtain ⟨a1, rfl, rfl, rfl, w1⟩ := open_int Try.underlying3 (hval 1 3 v1 rfl rfl) h1
  obtain ⟨a2, rfl, rfl, rfl, w2⟩ := open_int Try.underlying3 (hval 2 3 v2 rfl rfl) h2
  clear hA0 hval0
  refine (walk W _ _ x0 hc0 hr0 ok0 a1 w1 a2 w2).mono fun e W' ⟨he, bel⟩ => ?_
  subst he
  exact ⟨_, rfl, _, _, _, [], _, [], hW', trodAll_mk1 (shut_bool Try.underlying4 _), (trodAll_cons_mk (Below.trod laidOut (by kernel_rfl) (of_decide_eq_true (by kernel_rfl)) k0 bel lt0) (trodAll_cons_mk (shut_int Try.underlying3 w1) (trodAll_cons_mk (shut_int Try.underlying3 w2) trodAll_mk0))), rfl, bel.frame _, fun h => by cases h⟩
theorem over : Rows.handleMovesRow.holds Try.pinned (OpenSpec.ofChange Rows.handleMovesSpec) :=
  OpenClaim.holds_of_wide 9 Try.f9 rfl rfl rfl rfl rfl rfl rfl ⟨rfl, rfl, rfl, rfl, rfl⟩ rfl rfl rfl rfl rfl (by kernel_rfl) Try.func9 (by kernel_rfl)
    (of_decide_eq_true (by kernel_rfl)) (by unfold Func.isWrapper; first | (rw [if_pos (by decide +kernel)]; kernel_rfl) | (rw [if_neg (by decide +kernel)]; exact ⟨rfl, rfl⟩))
    (fun os started H enc _ => lifted os started H enc)
theorem proved : Rows.HandleMovesSaid := over
#print axioms proved
end Go.Proofs.Ytgkjhnilgmokiaa.handleMoves
