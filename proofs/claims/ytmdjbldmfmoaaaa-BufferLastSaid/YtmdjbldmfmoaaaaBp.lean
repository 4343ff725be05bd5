/- BufferLast's helpers: its function value, what the walk carries. -/
import Derived.Test.YtmdjbldmfmoaaaaBq
namespace Go.Proofs.Ytmdjbldmfmoaaaa.Bp
open Go.RowKit Go.ChangeShapes Go.WideShapes Go.Proofs.YtmdjbldmfmoaaaaW.PrintWords Go.Proofs.Ytmdjbldmfmoaaaa.Ba Go.Proofs.Ytmdjbldmfmoaaaa.Bu Go.Proofs.Ytmdjbldmfmoaaaa.Bw Go.Proofs.Ytmdjbldmfmoaaaa.Bl Go.Proofs.Ytmdjbldmfmoaaaa.Bn Go.Proofs.Ytmdjbldmfmoaaaa.Bs Go.Proofs.Ytmdjbldmfmoaaaa.Bq
set_option linter.unusedVariables false
def smB (x y : W8) : Bool := (x.kind == y.kind) && (x.field == y.field) && ((x.kind != 1) || (x.obj == y.obj))
theorem smB_eq (x y : W8) : smB x y = Pm x y := by
  rw [pm_symm]
  unfold smB Pm matchP
  rw [Bool.eq_iff_iff]
  simp only [Bool.and_eq_true, beq_iff_eq, Bool.or_eq_true, bne_iff_ne]
  constructor
  · rintro ⟨⟨h1, h2⟩, h3⟩
    refine ⟨⟨h1, h2⟩, ?_⟩
    rw [← h1]
    exact h3
  · rintro ⟨⟨h1, h2⟩, h3⟩
    refine ⟨⟨h1, h2⟩, ?_⟩
    rw [h1]
    exact h3
set_option maxHeartbeats 2000000 in
theorem same_any (x y : W8) (w : World) : Calls Try.prog 19 #[agg8 x, agg8 y] w (BoolPost (Pm x y) w) := by
  rw [← smB_eq]
  obtain ⟨f0, f1, f2, ⟨f3, f4, f5, f6, f7⟩⟩ := x
  obtain ⟨g0, g1, g2, ⟨g3, g4, g5, g6, g7⟩⟩ := y
  unfold agg8
  dsimp only
  have HB := Lib.hid (((Below.refl w.heap.size w).alloc (Nat.le_refl _) (.cells #[.int .i64 f0, .int .i64 f1, .int .i64 f2, .int .i64 f3, .int .i64 f4, .int .u64 f5, .int .u64 f6, .int .i64 f7] 31)).alloc (by rw [size_al]; omega) (.cells #[.int .i64 g0, .int .i64 g1, .int .i64 g2, .int .i64 g3, .int .i64 g4, .int .u64 g5, .int .u64 g6, .int .i64 g7] 31))
  obtain ⟨b, hb⟩ : ∃ b, smB ⟨f0, f1, f2, ⟨f3, f4, f5, f6, f7⟩⟩ ⟨g0, g1, g2, ⟨g3, g4, g5, g6, g7⟩⟩ = b := ⟨_, rfl⟩
  rw [hb]
  have hm : ((f0 == g0) && (f2 == g2) && ((f0 != 1) || (f1 == g1))) = b := hb
  clear hb
  cases b
  · have ec := match_f (f0 == g0) (f2 == g2) (f0 != 1) (f1 == g1) hm
    clear hm
    rcases ec with e1 | ⟨e1, e2⟩ | ⟨e1, e2, e3, e4⟩
    all_goals
      go_enter Try.func19, Try.ntmps19
      go_wp2
      go_ret
      exact ⟨rfl, HB.out⟩
  · have ec := match_t (f0 == g0) (f2 == g2) (f0 != 1) (f1 == g1) hm
    clear hm
    rcases ec with ⟨e1, e2, e3⟩ | ⟨e1, e2, e3, e4⟩
    all_goals
      go_enter Try.func19, Try.ntmps19
      go_wp2
      go_ret
      exact ⟨rfl, HB.out⟩
theorem Bx8.there8 {w : World} {g : Nat} {x : W8} (h : Bx8 w g x) : w.there g 0 8 := by
  intro j hj
  refine ⟨?_, blk_frozen h _⟩
  rw [cell_of_row w g _ _ 31 (0, 0) h]
  have : j = 0 ∨ j = 1 ∨ j = 2 ∨ j = 3 ∨ j = 4 ∨ j = 5 ∨ j = 6 ∨ j = 7 := by omega
  rcases this with rfl | rfl | rfl | rfl | rfl | rfl | rfl | rfl <;> rfl
theorem Bx8.store8 {w : World} {g : Nat} {x : W8} (h : Bx8 w g x) (r : W8) : ∃ w2, w.setCells g 0 r.cs = w2 ∧ Bx8 w2 g r ∧ w.grownBy w2 (some g) := by
  refine ⟨_, rfl, ?_, ?_⟩
  · obtain ⟨cur', h3, h4, h5⟩ := setCells_row r.cs 0 w _ h (by simp [W8.cs])
    unfold Bx8
    rw [h3]
    have : cur'.toList = r.cs := by
      have e : cur'.toList = cur'.toList.take (0 + r.cs.length) := (List.take_of_length_le (by rw [Array.length_toList, h4]; simp [W8.cs])).symm
      rw [e, h5]
      rfl
    have : cur' = r.cs.toArray := by rw [← this]
    rw [this]
    rfl
  · obtain ⟨s1, s2, s3, s4⟩ := setCells_same g r.cs 0 w
    exact ⟨s1, s2, s3, by rw [s4]; exact Nat.le_refl _, fun k _ hk => setCells_far r.cs _ k (fun he => hk (by rw [he]))⟩
theorem At8.below {w w' : World} {p : Addr} {x : W8} (h : At8 w p x) (hb : Below w.heap.size w w') : At8 w' p x :=
  ⟨cell_old h.c0 hb.block, cell_old h.c1 hb.block, cell_old h.c2 hb.block, cell_old h.c3 hb.block, cell_old h.c4 hb.block, cell_old h.c5 hb.block, cell_old h.c6 hb.block, cell_old h.c7 hb.block⟩
def accL (l : List W8) : List W8 := l.filter mayB
theorem accL_snoc (l : List W8) (x : W8) : accL (l ++ [x]) = accL l ++ (if mayB x = true then [x] else []) := by
  unfold accL
  rw [List.filter_append, List.filter_cons]
  rfl
theorem pl_acc (l : List W8) : pl (accL l) = pl l := by
  have h : ∀ (l out : List W8), (accL l).foldl putL out = l.foldl putL out := by
    intro l
    induction l with
    | nil => exact fun out => rfl
    | cons x l ih =>
      intro out
      unfold accL
      rw [List.filter_cons, List.foldl_cons]
      cases hm : mayB x
      · rw [if_neg (by decide)]
        have : putL out x = out := by unfold putL; rw [hm]; rfl
        rw [this]
        exact ih out
      · rw [if_pos rfl, List.foldl_cons]
        exact ih _
  exact h l []
theorem putE_small {l : List W8} {x : W8} (hl : l.length < 64) : putE l x = if mayB x = true then 0 else 1 := by
  unfold putE
  split
  · split
    · rfl
    · rw [if_neg (by omega)]
  · rfl
/-- What the first loop carries: the buffer, and a row of writes apart. -/
structure Bt (w wr : World) (v va : Value) (l P : List W8) : Prop where
  f : Bf wr w.heap.size w.heap.size v l
  a : R8 wr w.heap.size va P
  ne : ∀ k, va.ownBlock = some k → v.ownBlock ≠ some k
  b : Below w.heap.size w wr
theorem r_ne {W : World} {B B' g : Nat} {v va : Value} {l P : List W8} (hr : R8 W B' va P) (hf : Bf W B g v l) : va.ownBlock ≠ some g := by
  intro e
  obtain ⟨inner, ho⟩ := Kd.R_own hr
  obtain ⟨cs, hc⟩ := own_typed ho g e
  have h := hf.1
  rw [hc] at h
  injection h with h
  injection h with _ h
  cases h
section
variable {w wr w' : World} {v va v' : Value} {l l' P : List W8}
theorem Bt.later (h : Bt w wr v va l P) (hb : Below wr.heap.size wr w') : Bt w w' v va l P :=
  ⟨h.f.later hb, h.a.below hb, h.ne, h.b.trans (hb.mono h.b.size)⟩
theorem Bt.put (h : Bt w wr v va l P) (hf : Bf w' w.heap.size w.heap.size v' l') (hk : Kp wr w' w.heap.size v) (hat : v'.ownBlock = v.ownBlock ∨ ∃ b, v'.ownBlock = some b ∧ wr.heap.size ≤ b) : Bt w w' v' va l' P := by
  have h2 := r_ne h.a h.f
  refine ⟨hf, R8.move h.a fun k hk' => hk.block k (h.a.lt k hk').2 (fun e => h2 (by rw [hk', e])) (h.ne k hk'), fun k hk' e => ?_, h.b.trans (hk.below h.f)⟩
  rcases hat with hat | ⟨b, hat, hle⟩
  · exact h.ne k hk' (by rw [← hat]; exact e)
  · rw [hat] at e
    injection e with e
    have := (h.a.lt k hk').2
    omega
theorem Bt.app (h : Bt w wr v va l P) {va' : Value} {P' : List W8} (hr : R8 w' w.heap.size va' P') (hg : wr.grownBy w' va.ownBlock) (hb : Below w.heap.size w w') (hat : va'.ownBlock = va.ownBlock ∨ ∃ b, va'.ownBlock = some b ∧ wr.heap.size ≤ b) : Bt w w' v va' l P' := by
  have h2 := r_ne h.a h.f
  refine ⟨⟨(hg.block _ h.f.lt (fun e => h2 e.symm)).trans h.f.1, R8.move h.f.2.1 fun k hk => hg.block k (h.f.2.1.lt k hk).2 (fun e => h.ne k e.symm hk), h.f.2.2⟩, hr, fun k hk e => ?_, hb⟩
  rcases hat with hat | ⟨b, hat, hle⟩
  · exact h.ne k (by rw [← hat]; exact hk) e
  · rw [hat] at hk
    injection hk with hk
    have := (h.f.2.1.lt k e).2
    omega
end
theorem bt_new (w : World) : Bt w (w.alloc (.cells #[.slice none 0 0] 54)) (.slice none 0 0) (.slice none 0 0) [] [] :=
  ⟨bf_new w, R8.nil _ _, fun k hk => by simp [Value.ownBlock] at hk, (Below.refl _ _).alloc (Nat.le_refl _) _⟩
/-- Of the i-th no earlier one, as far as j. -/
def fB (T : List W8) (i j : Nat) : Bool := decide (∀ j', j' < j → Pm (T.getD i z8) (T.getD j' z8) = true → i ≤ j')
theorem fB_zero (T : List W8) (i : Nat) : fB T i 0 = true := decide_eq_true fun j' h => by omega
theorem fB_no {T : List W8} {i j : Nat} (h : Pm (T.getD i z8) (T.getD j z8) = false) : fB T i (j + 1) = fB T i j := by
  unfold fB
  rw [decide_eq_decide]
  constructor
  · exact fun hh j' hj => hh j' (by omega)
  · intro hh j' hj hp
    by_cases e : j' = j
    · subst e
      rw [h] at hp
      cases hp
    · exact hh j' (by omega) hp
theorem fB_yes {T : List W8} {i j : Nat} (h : Pm (T.getD i z8) (T.getD j z8) = true) : fB T i (j + 1) = (fB T i j && decide (i ≤ j)) := by
  unfold fB
  rw [Bool.eq_iff_iff]
  simp only [decide_eq_true_eq, Bool.and_eq_true]
  constructor
  · exact fun hh => ⟨fun j' hj => hh j' (by omega), hh j (by omega) h⟩
  · rintro ⟨h1, h2⟩ j' hj hp
    by_cases e : j' = j
    · subst e; exact h2
    · exact h1 j' (by omega) hp
theorem fB_end {T : List W8} {i : Nat} (hi : i < T.length) : fB T i T.length = decide (Fst T i) := by
  unfold fB
  rw [decide_eq_decide]
  constructor
  · intro h j hj
    cases e : Pm (T.getD i z8) (T.getD j z8)
    · rfl
    · have := h j (by omega) e
      omega
  · intro h j hj hp
    by_cases e : j < i
    · rw [h j e] at hp; cases hp
    · omega
/-- What is found at a first's place. -/
theorem find_first {T : List W8} (hm : ∀ x ∈ T, mayB x = true) (hl : T.length ≤ 60) {i : Nat} (hi : i < T.length) (hf : Fst T i) :
    cnt T i < (pl T).length ∧ (pl T).getD (cnt T i) z8 = norm (lst (T.getD i z8) T) ∧ fv (T.getD i z8).kind (T.getD i z8).obj (T.getD i z8).field (pl T) = told5 (lst (T.getD i z8) T).v ∧ fb (T.getD i z8).kind (T.getD i z8).obj (T.getD i z8).field (pl T) = true ∧
      Pm (norm (lst (T.getD i z8) T)) (T.getD i z8) = true ∧ svB (told5 (lst (T.getD i z8) T).v) (lst (T.getD i z8) T).v = true := by
  obtain ⟨h1, h2⟩ := pl_last T hm hl
  have hc : cnt T i < (pl T).length := by rw [h1]; exact cnt_lt T hi hf
  have h3 := h2 i hi hf
  have hp : Pm (norm (lst (T.getD i z8) T)) (T.getD i z8) = true := by rw [norm_place, pm_symm]; exact lst_place _ _
  have hidx : (pl T).findIdx (matchP (T.getD i z8).kind (T.getD i z8).obj (T.getD i z8).field) = cnt T i := by
    rw [List.findIdx_eq hc]
    refine ⟨?_, fun j hj => ?_⟩
    · rw [← getD_at hc, h3]
      have := hp
      rw [pm_symm] at this
      exact this
    · rw [← getD_at (by omega)]
      have hd := (nm_pl T).2 j (cnt T i) hj hc
      rw [h3] at hd
      cases e : matchP (T.getD i z8).kind (T.getD i z8).obj (T.getD i z8).field ((pl T).getD j z8)
      · rfl
      · have e2 : Pm (T.getD i z8) ((pl T).getD j z8) = true := e
        rw [pm_trans (a := T.getD i z8) e2, pm_symm, hp] at hd
        cases hd
  have hmem : mayB (lst (T.getD i z8) T) = true := by
    rcases lst_mem (T.getD i z8) T with h | h
    · rw [h]; exact hm _ (mem_getD hi)
    · exact hm _ h
  refine ⟨hc, h3, ?_, ?_, hp, sv_told (may_kd hmem).1 (may_kd hmem).2⟩
  · unfold fv
    rw [hidx, if_pos hc, h3]
    rfl
  · unfold fb
    rw [hidx]
    exact decide_eq_true hc
end Go.Proofs.Ytmdjbldmfmoaaaa.Bp
