/- closure.Of: its contract, for the function values that the statements hand it. -/
import Derived.Test.YtgkjhnilgmokiaaW8
import Derived.Deep.DeepFit
import Derived.Outline
namespace Go.Proofs.Ytgkjhnilgmokiaa.Of
open Go.RowKit Go.ChangeShapes Go.WideShapes Go.Proofs.YtgkjhnilgmokiaaW.PrintWords Go.Proofs.Ytgkjhnilgmokiaa.Ha Go.Proofs.Ytgkjhnilgmokiaa.Hp Go.Proofs.Ytgkjhnilgmokiaa.Cl Go.Proofs.Ytgkjhnilgmokiaa.Clo Go.Proofs.Ytgkjhnilgmokiaa.W8
set_option linter.unusedVariables false
/-- The table as a function. -/
def Rt (t : List (List Int)) (x : Int) : List Int := if x < 0 ∧ -1 - x < t.length then t.getD (-1 - x).toNat [] else []
theorem rt_le {t : List (List Int)} (h : ∀ r ∈ t, r.length ≤ 30) (x : Int) : (Rt t x).length ≤ 30 := by
  unfold Rt
  split
  · rename_i hx
    apply h
    rw [List.getD_eq_getElem?_getD, List.getElem?_eq_getElem (by omega)]
    exact List.getElem_mem _
  · simp
/-- A row of ints that was made, and what is kept. -/
def Made (w : World) (l : List Int) (e : Ending) (w' : World) : Prop := ∃ A c, e = .returned (.slice A l.length c) ∧ Rd w' A l ∧ (∀ ad, A = some ad → w.heap.size ≤ ad.block) ∧ Below w.heap.size w w'
theorem made_own {w w' : World} {l : List Int} {v : Value} (h : w'.ownsRow w.heap.size 3 1 v l.length (l.map (Value.int .i64))) (hb : Below w.heap.size w w') : Made w l (.returned v) w' := by
  obtain ⟨_, A, c, rfl, hr⟩ := own_rd h
  refine ⟨A, c, rfl, hr, ?_, hb⟩
  rintro ad rfl
  rcases h.2 with ⟨he, _⟩ | ⟨g, cap, cur, he, hle, _⟩
  · cases he
  · injection he with he
    injection he with he
    rw [he]
    exact hle
theorem Rd.grown {w w' : World} {A : Option Addr} {l : List Int} {row : Option Nat} (h : Rd w A l) (hg : w.grownBy w' row) (hne : ∀ ad, A = some ad → some ad.block ≠ row) : Rd w' A l := by
  intro i hi
  obtain ⟨ad, rfl, hc⟩ := h i hi
  refine ⟨ad, rfl, ?_⟩
  rw [← hc]
  have hlt : (ad.add i).block < w.heap.size := by
    cases hh : w.heap[(ad.add i).block]? with
    | none =>
      unfold World.cell? at hc
      rw [hh] at hc
      simp at hc
    | some x => exact (Array.getElem?_eq_some_iff.1 hh).1
  have hbk : (ad.add i).block = ad.block := by unfold Addr.add; split <;> rfl
  unfold World.cell?
  rw [hg.block _ hlt (by rw [hbk]; exact hne _ rfl)]
theorem addL_ge (out xs : List Int) : out.length ≤ (addL out xs).length := by
  unfold addL
  induction xs generalizing out with
  | nil => exact Nat.le_refl _
  | cons x xs ih =>
    rw [List.foldl_cons]
    refine Nat.le_trans ?_ (ih (stp out x))
    unfold stp
    split
    · simp
    · exact Nat.le_refl _
theorem info3' : (Try.prog.info? 3).map (fun i => (i.zero, i.size, i.bytes)) = some (some (.int .i64 0), 1, 8) := by kernel_rfl
set_option maxHeartbeats 1000000 in
theorem call37 (t : List (List Int)) (A : Option Addr) (c g : Nat) (x : Int) (w : World) (hT : w.heap[g]? = some (.cells #[.slice A t.length c] 23 (0, 0))) (hC : Kd.C (Kd.slice 3 (Kd.int .i64)) w A t.length t) (hl : ∀ r ∈ t, r.length ≤ 30) (ht : t.length ≤ 80)
    (hx : vol x = true) : Calls Try.prog 37 #[.int .i64 x, .pointer (some ⟨g, 0, none⟩)] w (Made w (Rt t x)) := by
  obtain ⟨h1, h2⟩ := vol_iff.1 hx
  have c0 := cell_of_one hT
  have HR := Lib.hid (rt_le hl x)
  by_cases hlt : -1 - x < (t.length : Int)
  · have e : Rt t x = t.getD (-1 - x).toNat [] := by unfold Rt; rw [if_pos ⟨h2, hlt⟩]
    rw [e] at HR ⊢
    obtain ⟨k, hk⟩ : ∃ k : Nat, -1 - x = (k : Int) := ⟨(-1 - x).toNat, by omega⟩
    rw [show (-1 - x).toNat = k by omega] at HR ⊢
    obtain ⟨ad, B, c', rfl, hc, hle, hrow⟩ := at_row hC k (by omega)
    have HC := Lib.hid ((Kd.reads_of_C (d := (0 : Int)) hrow))
    have hkl : k < t.length := by omega
    obtain ⟨ys, hys⟩ : ∃ ys, t.getD k [] = ys := ⟨_, rfl⟩
    rw [hys] at HR hc hle HC ⊢
    clear hys
    obtain rfl : x = -1 - (k : Int) := by omega
    have s1 : IntKind.i64.wrap (-1 - (-1 - (k : Int))) = (k : Int) := by rw [Go.IntWalk.i64_in _ (by omega)]; omega
    clear hT hC hl hx e hrow
    have hyl := HR.out
    go_enter Try.func37, Try.ntmps37
    go_wp2_with (at_builtin; refine print_append_row_of (P := Try.prog) (w0 := w) (W := w) (Value.int .i64) 0 w.heap.size rfl (.const (.slice none 0 0)) (.tmp 17) 27 3 (.int .i64 0) 8 rfl Try.underlying27 info3' rfl (by omega) (fun _ => rfl) (.slice none 0 0) [] ys B ys.length c' rfl rfl (own_nil _ _ _ _) HC.out (Below.refl _ _) (Nat.le_refl _) ?c1 ?_)
    case c1 => simp; omega
    intro v1 w1 ho hb _ _
    have HM := Lib.hid (made_own ho hb)
    clear ho hb
    go_wp2
    go_ret
    exact HM.out
  · have e : Rt t x = [] := by unfold Rt; rw [if_neg (fun h => hlt h.2)]
    rw [e]
    clear hT hC hl hx e HR
    have s1 : decide (IntKind.i64.wrap (-1 - x) < (t.length : Int)) = false := by rw [Go.IntWalk.i64_in _ (by omega)]; exact decide_eq_false hlt
    go_enter Try.func37, Try.ntmps37
    go_wp2
    go_ret
    exact ⟨none, 0, rfl, fun i hi => absurd hi (by simp), (fun _ h => by cases h), Below.refl _ _⟩

def sel (x : W8) : Bool := (x.kind == 1 || x.kind == 2) && x.v.kd == 3
def sd1 (out : List Int) (x : W8) : List Int := if sel x = true then stp out x.v.ref else out
theorem sd1_yes (L : List Int) {x : W8} (h : sel x = true) : sd1 L x = stp L x.v.ref := by unfold sd1; rw [if_pos h]
theorem sd1_no (L : List Int) {x : W8} (h : sel x = false) : sd1 L x = L := by unfold sd1; rw [h]; rfl
def sd (l : List W8) : List Int := l.foldl sd1 []
theorem sd_snoc (l : List W8) (x : W8) : sd (l ++ [x]) = sd1 (sd l) x := by
  unfold sd
  rw [List.foldl_append]
  rfl
theorem gd_sd1 {out : List Int} (h : Gd out) (x : W8) : Gd (sd1 out x) := by
  unfold sd1
  split
  · exact gd_stp h _
  · exact h
theorem gd_sd (l : List W8) : Gd (sd l) := by
  have : ∀ (l : List W8) (out : List Int), Gd out → Gd (l.foldl sd1 out) := by
    intro l
    induction l with
    | nil => exact fun out h => h
    | cons x l ih => exact fun out h => ih _ (gd_sd1 h x)
  exact this l [] gd_nil
theorem take_next8 (l : List W8) (k : Nat) (h : k < l.length) : l.take (k + 1) = l.take k ++ [l.getD k z8] := by
  rw [List.take_add_one, List.getD_eq_getElem?_getD, List.getElem?_eq_getElem h]
  rfl
def r35 (x : Int) : List Int := if x = -1 then [-2, 5, -1] else []
theorem call35 (x : Int) (w : World) : Calls Try.prog 35 #[.int .i64 x] w (Made w (r35 x)) := by
  by_cases h : x = -1
  · subst h
    go_enter Try.func35, Try.ntmps35
    go_wp2
    go_ret
    have h := World.ownsRow_lit (base := w.heap.size) (e := 3) (size := 1) w #[.int .i64 (-2), .int .i64 5, .int .i64 (-1)] 3 (Nat.le_refl _) (by simp [maxLen]) rfl
    exact made_own (l := [-2, 5, -1]) h ((Below.refl _ _).alloc (Nat.le_refl _) _)
  · have e : r35 x = [] := by unfold r35; rw [if_neg h]
    rw [e]
    go_enter Try.func35, Try.ntmps35
    go_wp2
    go_ret
    exact ⟨none, 0, rfl, fun i hi => absurd hi (by simp), (fun _ h => by cases h), Below.refl _ _⟩
theorem rd_one (w : World) (x : Int) (n : Nat) (hn : n = w.heap.size) : Rd (w.alloc (.cells #[.int .i64 x] 3)) (some ⟨n, 0, none⟩) [x] := by
  subst hn
  intro i hi
  obtain rfl : i = 0 := by simp at hi; omega
  refine ⟨_, rfl, ?_⟩
  exact cell_of_row _ _ 0 _ 3 (0, 0) (heap_alloc_new w _)
/-- A row of ints of the call's own. -/
def Own (w : World) (l : List Int) (e : Ending) (w' : World) : Prop := ∃ v, e = .returned v ∧ w'.ownsRow w.heap.size 3 1 v l.length (l.map (Value.int .i64)) ∧ Below w.heap.size w w'
def mu (a : Act) (_ : World) : Nat := 65 - (intOf (a.tmps.getD 6 undef)).toNat
def J37 (t : List (List Int)) (g : Nat) (A0 : Option Addr) (n c0 : Nat) (F : List Int) (w : World) (a' : Act) (w' : World) : Prop := ∃ (out : List Int) (k : Nat) (v : Value), k ≤ out.length ∧ Gd out ∧ clo (Rt t) (65 - k) out k = F ∧ w'.ownsRow w.heap.size 3 1 v out.length (out.map (Value.int .i64)) ∧ Below w.heap.size w w' ∧
  ∃ u2 u3 u4 u7 u8 u9 u10 u11 u12 u13 u14 u15 u16 u17 u18 u19 u20 u21 u22 u23 u24 u25 u26 u27 u28 u29 u30 u31 u32 u33 u34 u35 u36 u37 u38 u39 u40 u41 u42 u43 u44 u45 u46 u47 u48 u49 u50 u51 u52 u53 u54 : Value, a' = ⟨#[.slice A0 n c0, (.func (.func 37) #[] #[.pointer (some ⟨g, 0, none⟩)]), u2, u3, u4, v, .int .i64 (k : Int), u7, u8, u9, u10, u11, u12, u13, u14, u15, u16, u17, u18, u19, u20, u21, u22, u23, u24, u25, u26, u27, u28, u29, u30, u31, u32, u33, u34, u35, u36, u37, u38, u39, u40, u41, u42, u43, u44, u45, u46, u47, u48, u49, u50, u51, u52, u53, u54], []⟩
set_option maxHeartbeats 4000000 in
theorem of_37 (t : List (List Int)) (A : Option Addr) (c g : Nat) (A0 : Option Addr) (c0 : Nat) (l : List W8) (w : World) (h8 : Kd.C k8 w A0 l.length l) (hn : l.length ≤ 1000) (hT : w.heap[g]? = some (.cells #[.slice A t.length c] 23 (0, 0))) (hC : Kd.C (Kd.slice 3 (Kd.int .i64)) w A t.length t) (hl : ∀ r ∈ t, r.length ≤ 30) (ht : t.length ≤ 80) :
    Calls Try.prog 16 #[.slice A0 l.length c0, .func (.func 37) #[] #[.pointer (some ⟨g, 0, none⟩)]] w (Own w (clo (Rt t) 65 (sd l) 0)) := by
  have H8 := Lib.hid h8
  clear h8
  have hg := (Array.getElem?_eq_some_iff.1 hT).1
  have HT := Lib.hid hT
  have HC := Lib.hid hC
  have HL := rt_le hl
  clear hT hC
  have ke : ∀ W : World, (binOp .eql 29 (.func (.func 37) #[] #[.pointer (some ⟨g, 0, none⟩)]) .nilFunc).run Try.prog W = .ok (.bool false) W := fun _ => rfl
  go_enter Try.func16, Try.ntmps16
  go_wp2
  refine Sc.wp_scope_here 0 (J37 t g A0 l.length c0 (clo (Rt t) 65 (sd l) 0) w) mu rfl ?_ ?_
  · rintro a' w' ⟨out, k, v, hk, hg, hF, ho, hb, u2, u3, u4, u7, u8, u9, u10, u11, u12, u13, u14, u15, u16, u17, u18, u19, u20, u21, u22, u23, u24, u25, u26, u27, u28, u29, u30, u31, u32, u33, u34, u35, u36, u37, u38, u39, u40, u41, u42, u43, u44, u45, u46, u47, u48, u49, u50, u51, u52, u53, u54, rfl⟩
    obtain ⟨_, A5, c5, rfl, hrd⟩ := own_rd ho
    have hle := gd_le hg
    have HO := Lib.hid ho
    have HF := Lib.hid hF
    have HG := Lib.hid hg
    have hbs := hb.size
    clear ho hF hg
    by_cases hlt : k < out.length
    · obtain ⟨ad, rfl, hc⟩ := hrd k hlt
      have hst := clo_step (R := (Rt t)) hlt (by omega)
      rw [HF.out] at hst
      have hm : out.getD k 0 ∈ out := by
        rw [List.getD_eq_getElem?_getD, List.getElem?_eq_getElem hlt]
        exact List.getElem_mem hlt
      have hv := Lib.hid (HG.out.2 _ hm)
      have HST := Lib.hid hst
      obtain ⟨y, hy⟩ : ∃ y, out.getD k 0 = y := ⟨_, rfl⟩
      rw [hy] at hc hv
      try rw [hy] at HST
      have e0 : ((k : Int) == (out.length : Int)) = false := by rw [beq_eq_false_iff_ne]; omega
      clear hrd hst hm hy HF
      go_wp2_with fail
      refine (call37 t A c g y _ ((hb.block g hg).trans HT.out) (Kd.C_below HC.out hb) hl ht hv.out).mono ?_
      rintro e w1 ⟨A6, c6, rfl, hr1, hn1, hb1⟩
      have ho1 := own_below HO.out (hb1.mono (Nat.le_refl _)) (Nat.le_refl _)
      have hl1 := Lib.hid (HL y)
      have hr1 := Lib.hid hr1
      have HN1 := Lib.hid hn1
      clear hn1
      have ho1 := Lib.hid ho1
      have hs1 := hb1.size
      go_wp2_with fail
      refine (add_any w.heap.size _ out ((Rt t) y) A6 c6 w1 ho1.out (by have := hl1.out; omega) ?_ (by omega)).mono ?_
      · intro W hW
        refine Rd.grown hr1.out hW fun ad e1 e2 => ?_
        have h5 := HN1.out ad e1
        have h6 := (HO.out.lt _ e2.symm).2
        omega
      rintro e w2 ⟨v2, rfl, ho2, hg2, _⟩
      have hb2 := (hb.trans (hb1.mono hb.size)).grown hg2 (by omega) (fun j hj => by have := (HO.out.lt j hj).1; omega)
      have ho2 := Lib.hid ho2
      clear hg2
      go_wp2
      go_step3
      try simp only [Exit.then]
      refine ⟨rfl, ⟨_, k + 1, v2, ?_, gd_addL HG.out _, HST.out.symm, ho2.out, hb2, _, _, _, _, _, _, _, _, _, _, _, _, _, _, _, _, _, _, _, _, _, _, _, _, _, _, _, _, _, _, _, _, _, _, _, _, _, _, _, _, _, _, _, _, _, _, _, _, _, _, _, rfl⟩, ?_⟩
      · have := addL_ge out ((Rt t) y)
        omega
      · simp [mu, intOf]; omega
    · obtain rfl : k = out.length := by omega
      go_wp2
      simp only [Exit.jump]
      go_ret
      have e := clo_done (R := (Rt t)) (Nat.le_refl out.length) (65 - out.length)
      rw [HF.out] at e
      rw [e]
      exact ⟨_, rfl, HO.out, hb⟩
  · intro hp
    go_wp2
    go_loopw [5, 11] (fun v i wr => ∃ k : Nat, k ≤ l.length ∧ i = .int .i64 (k : Int) ∧ wr.ownsRow w.heap.size 3 1 v (sd (l.take k)).length ((sd (l.take k)).map (Value.int .i64)) ∧ Below w.heap.size w wr) (fun _ i _ => l.length - (intOf i).toNat)
    case atStart => exact ⟨0, by omega, rfl, own_nil _ _ _ _, Below.refl _ _⟩
    case round =>
      obtain ⟨k, hk, rfl, ho, hb⟩ := hrel
      have hbs := hb.size
      have hg := gd_sd (l.take k)
      have hle := gd_le hg
      clear hg
      by_cases hlt : k < l.length
      · obtain ⟨ad, rfl, hc⟩ := at_W8 (Kd.C_below H8.out hb) k hlt
        have es : sd (l.take (k + 1)) = sd1 (sd (l.take k)) (l.getD k z8) := by rw [take_next8 l k hlt, sd_snoc]
        have ES := Lib.hid es
        clear es
        obtain ⟨L, hL⟩ : ∃ L, sd (l.take k) = L := ⟨_, rfl⟩
        obtain ⟨x, hx⟩ : ∃ x, l.getD k z8 = x := ⟨_, rfl⟩
        rw [hL] at ho hle ES
        rw [hx] at hc ES
        clear hL hx
        obtain ⟨q0, q1, q2, q3, q4, q5, q6, q7⟩ := hc
        obtain ⟨f0, f1, f2, ⟨f3, f4, f5, f6, f7⟩⟩ := x
        dsimp only at q0 q1 q2 q3 q4 q5 q6 q7
        have hb1 := hb.alloc hb.size (.cells #[.int .i64 f0, .int .i64 f1, .int .i64 f2, .int .i64 f3, .int .i64 f4, .int .u64 f5, .int .u64 f6, .int .i64 f7] 38)
        have ho1 := Lib.hid (ho.alloc (.cells #[.int .i64 f0, .int .i64 f1, .int .i64 f2, .int .i64 f3, .int .i64 f4, .int .u64 f5, .int .u64 f6, .int .i64 f7] 38))
        clear ho
        have EV := Lib.hid (show sel ⟨f0, f1, f2, ⟨f3, f4, f5, f6, f7⟩⟩ = (((f0 == 1) || (f0 == 2)) && (f3 == 3)) from rfl)
        cases es : sel ⟨f0, f1, f2, ⟨f3, f4, f5, f6, f7⟩⟩
        · have E2 := Lib.hid (sd1_no L es)
          rw [es] at EV
          clear es
          cases e1 : (f0 == 1) <;> cases e2 : (f0 == 2) <;> cases e3 : (f3 == 3) <;> rw [e1, e2, e3] at EV <;> first
            | exact Bool.noConfusion EV.out
            | (go_wp2
               go_roundw
               case rel => exact ⟨k + 1, by omega, by go_num, by rw [ES.out, E2.out]; exact ho1.out, hb1⟩
               case measure => simp [intOf]; omega)
        · have E2 := Lib.hid (sd1_yes L es)
          rw [es] at EV
          clear es
          cases e1 : (f0 == 1) <;> cases e2 : (f0 == 2) <;> cases e3 : (f3 == 3) <;> rw [e1, e2, e3] at EV <;> try exact Bool.noConfusion EV.out
          all_goals clear EV
          all_goals
            go_wp2_with fail
            refine (add_any w.heap.size _ L [f7] _ _ _ (ho1.out.alloc _) (by simp; omega) ?_ (by rw [size_al, size_al]; omega)).mono ?_
            · intro W hW
              refine Rd.grown (rd_one _ f7 _ (by rw [size_al])) hW fun ad e1 e2 => ?_
              have h6 := (ho1.out.lt _ e2.symm).2
              injection e1 with e1
              rw [← e1] at h6
              rw [size_al] at h6
              exact absurd h6 (Nat.lt_irrefl _)
            rintro e w2 ⟨v2, rfl, ho2, hg2, _⟩
            have hb2 := (hb1.alloc (by rw [size_al]; omega) _).grown hg2 (by rw [size_al, size_al]; omega) (fun j hj => by have := (ho1.out.lt j hj).1; omega)
            rw [addL_one, ← E2.out, ← ES.out] at ho2
            have ho2 := Lib.hid ho2
            clear hg2
            go_wp2
            go_roundw
            case rel => exact ⟨k + 1, by omega, by go_num, ho2.out, hb2⟩
            case measure => simp [intOf]; omega
      · obtain rfl : k = l.length := by omega
        rw [List.take_length] at ho
        go_wp2
        go_step3
        rename_i K hK
        refine hK _ _ (hp _ _ ⟨sd l, 0, _, by omega, gd_sd l, rfl, ho, hb, ?_⟩)
        exact ⟨_, _, _, _, _, _, _, _, _, _, _, _, _, _, _, _, _, _, _, _, _, _, _, _, _, _, _, _, _, _, _, _, _, _, _, _, _, _, _, _, _, _, _, _, _, _, _, _, _, _, _, rfl⟩
def J35  (A0 : Option Addr) (n c0 : Nat) (F : List Int) (w : World) (a' : Act) (w' : World) : Prop := ∃ (out : List Int) (k : Nat) (v : Value), k ≤ out.length ∧ Gd out ∧ clo r35 (65 - k) out k = F ∧ w'.ownsRow w.heap.size 3 1 v out.length (out.map (Value.int .i64)) ∧ Below w.heap.size w w' ∧
  ∃ u2 u3 u4 u7 u8 u9 u10 u11 u12 u13 u14 u15 u16 u17 u18 u19 u20 u21 u22 u23 u24 u25 u26 u27 u28 u29 u30 u31 u32 u33 u34 u35 u36 u37 u38 u39 u40 u41 u42 u43 u44 u45 u46 u47 u48 u49 u50 u51 u52 u53 u54 : Value, a' = ⟨#[.slice A0 n c0, (.func (.func 35) #[] #[]), u2, u3, u4, v, .int .i64 (k : Int), u7, u8, u9, u10, u11, u12, u13, u14, u15, u16, u17, u18, u19, u20, u21, u22, u23, u24, u25, u26, u27, u28, u29, u30, u31, u32, u33, u34, u35, u36, u37, u38, u39, u40, u41, u42, u43, u44, u45, u46, u47, u48, u49, u50, u51, u52, u53, u54], []⟩
set_option maxHeartbeats 4000000 in
theorem of_35  (A0 : Option Addr) (c0 : Nat) (l : List W8) (w : World) (h8 : Kd.C k8 w A0 l.length l) (hn : l.length ≤ 1000)  :
    Calls Try.prog 16 #[.slice A0 l.length c0, .func (.func 35) #[] #[]] w (Own w (clo r35 65 (sd l) 0)) := by
  have H8 := Lib.hid h8
  clear h8
  have HL : ∀ y, (r35 y).length ≤ 30 := fun y => by unfold r35; split <;> decide
  have ke : ∀ W : World, (binOp .eql 29 (.func (.func 35) #[] #[]) .nilFunc).run Try.prog W = .ok (.bool false) W := fun _ => rfl
  go_enter Try.func16, Try.ntmps16
  go_wp2
  refine Sc.wp_scope_here 0 (J35  A0 l.length c0 (clo r35 65 (sd l) 0) w) mu rfl ?_ ?_
  · rintro a' w' ⟨out, k, v, hk, hg, hF, ho, hb, u2, u3, u4, u7, u8, u9, u10, u11, u12, u13, u14, u15, u16, u17, u18, u19, u20, u21, u22, u23, u24, u25, u26, u27, u28, u29, u30, u31, u32, u33, u34, u35, u36, u37, u38, u39, u40, u41, u42, u43, u44, u45, u46, u47, u48, u49, u50, u51, u52, u53, u54, rfl⟩
    obtain ⟨_, A5, c5, rfl, hrd⟩ := own_rd ho
    have hle := gd_le hg
    have HO := Lib.hid ho
    have HF := Lib.hid hF
    have HG := Lib.hid hg
    have hbs := hb.size
    clear ho hF hg
    by_cases hlt : k < out.length
    · obtain ⟨ad, rfl, hc⟩ := hrd k hlt
      have hst := clo_step (R := r35) hlt (by omega)
      rw [HF.out] at hst
      have hm : out.getD k 0 ∈ out := by
        rw [List.getD_eq_getElem?_getD, List.getElem?_eq_getElem hlt]
        exact List.getElem_mem hlt
      have hv := Lib.hid (HG.out.2 _ hm)
      have HST := Lib.hid hst
      obtain ⟨y, hy⟩ : ∃ y, out.getD k 0 = y := ⟨_, rfl⟩
      rw [hy] at hc hv
      try rw [hy] at HST
      have e0 : ((k : Int) == (out.length : Int)) = false := by rw [beq_eq_false_iff_ne]; omega
      clear hrd hst hm hy HF
      go_wp2_with fail
      refine (call35 y _).mono ?_
      rintro e w1 ⟨A6, c6, rfl, hr1, hn1, hb1⟩
      have ho1 := own_below HO.out (hb1.mono (Nat.le_refl _)) (Nat.le_refl _)
      have hl1 := Lib.hid (HL y)
      have hr1 := Lib.hid hr1
      have HN1 := Lib.hid hn1
      clear hn1
      have ho1 := Lib.hid ho1
      have hs1 := hb1.size
      go_wp2_with fail
      refine (add_any w.heap.size _ out (r35 y) A6 c6 w1 ho1.out (by have := hl1.out; omega) ?_ (by omega)).mono ?_
      · intro W hW
        refine Rd.grown hr1.out hW fun ad e1 e2 => ?_
        have h5 := HN1.out ad e1
        have h6 := (HO.out.lt _ e2.symm).2
        omega
      rintro e w2 ⟨v2, rfl, ho2, hg2, _⟩
      have hb2 := (hb.trans (hb1.mono hb.size)).grown hg2 (by omega) (fun j hj => by have := (HO.out.lt j hj).1; omega)
      have ho2 := Lib.hid ho2
      clear hg2
      go_wp2
      go_step3
      try simp only [Exit.then]
      refine ⟨rfl, ⟨_, k + 1, v2, ?_, gd_addL HG.out _, HST.out.symm, ho2.out, hb2, _, _, _, _, _, _, _, _, _, _, _, _, _, _, _, _, _, _, _, _, _, _, _, _, _, _, _, _, _, _, _, _, _, _, _, _, _, _, _, _, _, _, _, _, _, _, _, _, _, _, _, rfl⟩, ?_⟩
      · have := addL_ge out (r35 y)
        omega
      · simp [mu, intOf]; omega
    · obtain rfl : k = out.length := by omega
      go_wp2
      simp only [Exit.jump]
      go_ret
      have e := clo_done (R := r35) (Nat.le_refl out.length) (65 - out.length)
      rw [HF.out] at e
      rw [e]
      exact ⟨_, rfl, HO.out, hb⟩
  · intro hp
    go_wp2
    go_loopw [5, 11] (fun v i wr => ∃ k : Nat, k ≤ l.length ∧ i = .int .i64 (k : Int) ∧ wr.ownsRow w.heap.size 3 1 v (sd (l.take k)).length ((sd (l.take k)).map (Value.int .i64)) ∧ Below w.heap.size w wr) (fun _ i _ => l.length - (intOf i).toNat)
    case atStart => exact ⟨0, by omega, rfl, own_nil _ _ _ _, Below.refl _ _⟩
    case round =>
      obtain ⟨k, hk, rfl, ho, hb⟩ := hrel
      have hbs := hb.size
      have hg := gd_sd (l.take k)
      have hle := gd_le hg
      clear hg
      by_cases hlt : k < l.length
      · obtain ⟨ad, rfl, hc⟩ := at_W8 (Kd.C_below H8.out hb) k hlt
        have es : sd (l.take (k + 1)) = sd1 (sd (l.take k)) (l.getD k z8) := by rw [take_next8 l k hlt, sd_snoc]
        have ES := Lib.hid es
        clear es
        obtain ⟨L, hL⟩ : ∃ L, sd (l.take k) = L := ⟨_, rfl⟩
        obtain ⟨x, hx⟩ : ∃ x, l.getD k z8 = x := ⟨_, rfl⟩
        rw [hL] at ho hle ES
        rw [hx] at hc ES
        clear hL hx
        obtain ⟨q0, q1, q2, q3, q4, q5, q6, q7⟩ := hc
        obtain ⟨f0, f1, f2, ⟨f3, f4, f5, f6, f7⟩⟩ := x
        dsimp only at q0 q1 q2 q3 q4 q5 q6 q7
        have hb1 := hb.alloc hb.size (.cells #[.int .i64 f0, .int .i64 f1, .int .i64 f2, .int .i64 f3, .int .i64 f4, .int .u64 f5, .int .u64 f6, .int .i64 f7] 38)
        have ho1 := Lib.hid (ho.alloc (.cells #[.int .i64 f0, .int .i64 f1, .int .i64 f2, .int .i64 f3, .int .i64 f4, .int .u64 f5, .int .u64 f6, .int .i64 f7] 38))
        clear ho
        have EV := Lib.hid (show sel ⟨f0, f1, f2, ⟨f3, f4, f5, f6, f7⟩⟩ = (((f0 == 1) || (f0 == 2)) && (f3 == 3)) from rfl)
        cases es : sel ⟨f0, f1, f2, ⟨f3, f4, f5, f6, f7⟩⟩
        · have E2 := Lib.hid (sd1_no L es)
          rw [es] at EV
          clear es
          cases e1 : (f0 == 1) <;> cases e2 : (f0 == 2) <;> cases e3 : (f3 == 3) <;> rw [e1, e2, e3] at EV <;> first
            | exact Bool.noConfusion EV.out
            | (go_wp2
               go_roundw
               case rel => exact ⟨k + 1, by omega, by go_num, by rw [ES.out, E2.out]; exact ho1.out, hb1⟩
               case measure => simp [intOf]; omega)
        · have E2 := Lib.hid (sd1_yes L es)
          rw [es] at EV
          clear es
          cases e1 : (f0 == 1) <;> cases e2 : (f0 == 2) <;> cases e3 : (f3 == 3) <;> rw [e1, e2, e3] at EV <;> try exact Bool.noConfusion EV.out
          all_goals clear EV
          all_goals
            go_wp2_with fail
            refine (add_any w.heap.size _ L [f7] _ _ _ (ho1.out.alloc _) (by simp; omega) ?_ (by rw [size_al, size_al]; omega)).mono ?_
            · intro W hW
              refine Rd.grown (rd_one _ f7 _ (by rw [size_al])) hW fun ad e1 e2 => ?_
              have h6 := (ho1.out.lt _ e2.symm).2
              injection e1 with e1
              rw [← e1] at h6
              rw [size_al] at h6
              exact absurd h6 (Nat.lt_irrefl _)
            rintro e w2 ⟨v2, rfl, ho2, hg2, _⟩
            have hb2 := (hb1.alloc (by rw [size_al]; omega) _).grown hg2 (by rw [size_al, size_al]; omega) (fun j hj => by have := (ho1.out.lt j hj).1; omega)
            rw [addL_one, ← E2.out, ← ES.out] at ho2
            have ho2 := Lib.hid ho2
            clear hg2
            go_wp2
            go_roundw
            case rel => exact ⟨k + 1, by omega, by go_num, ho2.out, hb2⟩
            case measure => simp [intOf]; omega
      · obtain rfl : k = l.length := by omega
        rw [List.take_length] at ho
        go_wp2
        go_step3
        rename_i K hK
        refine hK _ _ (hp _ _ ⟨sd l, 0, _, by omega, gd_sd l, rfl, ho, hb, ?_⟩)
        exact ⟨_, _, _, _, _, _, _, _, _, _, _, _, _, _, _, _, _, _, _, _, _, _, _, _, _, _, _, _, _, _, _, _, _, _, _, _, _, _, _, _, _, _, _, _, _, _, _, _, _, _, _, rfl⟩
def JN  (A0 : Option Addr) (n c0 : Nat) (F : List Int) (w : World) (a' : Act) (w' : World) : Prop := ∃ (out : List Int) (k : Nat) (v : Value), k ≤ out.length ∧ Gd out ∧ clo (fun _ => []) (65 - k) out k = F ∧ w'.ownsRow w.heap.size 3 1 v out.length (out.map (Value.int .i64)) ∧ Below w.heap.size w w' ∧
  ∃ u2 u3 u4 u7 u8 u9 u10 u11 u12 u13 u14 u15 u16 u17 u18 u19 u20 u21 u22 u23 u24 u25 u26 u27 u28 u29 u30 u31 u32 u33 u34 u35 u36 u37 u38 u39 u40 u41 u42 u43 u44 u45 u46 u47 u48 u49 u50 u51 u52 u53 u54 : Value, a' = ⟨#[.slice A0 n c0, .nilFunc, u2, u3, u4, v, .int .i64 (k : Int), u7, u8, u9, u10, u11, u12, u13, u14, u15, u16, u17, u18, u19, u20, u21, u22, u23, u24, u25, u26, u27, u28, u29, u30, u31, u32, u33, u34, u35, u36, u37, u38, u39, u40, u41, u42, u43, u44, u45, u46, u47, u48, u49, u50, u51, u52, u53, u54], []⟩
set_option maxHeartbeats 4000000 in
theorem of_nil  (A0 : Option Addr) (c0 : Nat) (l : List W8) (w : World) (h8 : Kd.C k8 w A0 l.length l) (hn : l.length ≤ 1000)  :
    Calls Try.prog 16 #[.slice A0 l.length c0, .nilFunc] w (Own w (sd l)) := by
  have H8 := Lib.hid h8
  clear h8
  have ke : ∀ W : World, (binOp .eql 29 (.nilFunc) .nilFunc).run Try.prog W = .ok (.bool true) W := fun _ => rfl
  go_enter Try.func16, Try.ntmps16
  go_wp2
  refine Sc.wp_scope_here 0 (JN  A0 l.length c0 (sd l) w) mu rfl ?_ ?_
  · rintro a' w' ⟨out, k, v, hk, hg, hF, ho, hb, u2, u3, u4, u7, u8, u9, u10, u11, u12, u13, u14, u15, u16, u17, u18, u19, u20, u21, u22, u23, u24, u25, u26, u27, u28, u29, u30, u31, u32, u33, u34, u35, u36, u37, u38, u39, u40, u41, u42, u43, u44, u45, u46, u47, u48, u49, u50, u51, u52, u53, u54, rfl⟩
    obtain ⟨_, A5, c5, rfl, hrd⟩ := own_rd ho
    have hle := gd_le hg
    have HO := Lib.hid ho
    have HF := Lib.hid hF
    rw [clo_none] at hF
    have HFN := Lib.hid hF.symm
    have HG := Lib.hid hg
    have hbs := hb.size
    clear ho hF hg
    by_cases hlt : k < out.length
    · obtain ⟨ad, rfl, hc⟩ := hrd k hlt
      have hst := clo_step (R := (fun _ => [])) hlt (by omega)
      rw [HF.out] at hst
      have hm : out.getD k 0 ∈ out := by
        rw [List.getD_eq_getElem?_getD, List.getElem?_eq_getElem hlt]
        exact List.getElem_mem hlt
      have hv := Lib.hid (HG.out.2 _ hm)
      have HST := Lib.hid hst
      obtain ⟨y, hy⟩ : ∃ y, out.getD k 0 = y := ⟨_, rfl⟩
      rw [hy] at hc hv
      try rw [hy] at HST
      have e0 : ((k : Int) == (out.length : Int)) = false := by rw [beq_eq_false_iff_ne]; omega
      clear hrd hst hm hy HF
      rw [clo_none] at HST
      go_wp2
      simp only [Exit.jump]
      go_ret
      rw [HFN.out]
      exact ⟨_, rfl, HO.out, hb⟩
    · obtain rfl : k = out.length := by omega
      go_wp2
      simp only [Exit.jump]
      go_ret
      have e := clo_done (R := (fun _ => [])) (Nat.le_refl out.length) (65 - out.length)
      rw [HF.out] at e
      rw [e]
      exact ⟨_, rfl, HO.out, hb⟩
  · intro hp
    go_wp2
    go_loopw [5, 11] (fun v i wr => ∃ k : Nat, k ≤ l.length ∧ i = .int .i64 (k : Int) ∧ wr.ownsRow w.heap.size 3 1 v (sd (l.take k)).length ((sd (l.take k)).map (Value.int .i64)) ∧ Below w.heap.size w wr) (fun _ i _ => l.length - (intOf i).toNat)
    case atStart => exact ⟨0, by omega, rfl, own_nil _ _ _ _, Below.refl _ _⟩
    case round =>
      obtain ⟨k, hk, rfl, ho, hb⟩ := hrel
      have hbs := hb.size
      have hg := gd_sd (l.take k)
      have hle := gd_le hg
      clear hg
      by_cases hlt : k < l.length
      · obtain ⟨ad, rfl, hc⟩ := at_W8 (Kd.C_below H8.out hb) k hlt
        have es : sd (l.take (k + 1)) = sd1 (sd (l.take k)) (l.getD k z8) := by rw [take_next8 l k hlt, sd_snoc]
        have ES := Lib.hid es
        clear es
        obtain ⟨L, hL⟩ : ∃ L, sd (l.take k) = L := ⟨_, rfl⟩
        obtain ⟨x, hx⟩ : ∃ x, l.getD k z8 = x := ⟨_, rfl⟩
        rw [hL] at ho hle ES
        rw [hx] at hc ES
        clear hL hx
        obtain ⟨q0, q1, q2, q3, q4, q5, q6, q7⟩ := hc
        obtain ⟨f0, f1, f2, ⟨f3, f4, f5, f6, f7⟩⟩ := x
        dsimp only at q0 q1 q2 q3 q4 q5 q6 q7
        have hb1 := hb.alloc hb.size (.cells #[.int .i64 f0, .int .i64 f1, .int .i64 f2, .int .i64 f3, .int .i64 f4, .int .u64 f5, .int .u64 f6, .int .i64 f7] 38)
        have ho1 := Lib.hid (ho.alloc (.cells #[.int .i64 f0, .int .i64 f1, .int .i64 f2, .int .i64 f3, .int .i64 f4, .int .u64 f5, .int .u64 f6, .int .i64 f7] 38))
        clear ho
        have EV := Lib.hid (show sel ⟨f0, f1, f2, ⟨f3, f4, f5, f6, f7⟩⟩ = (((f0 == 1) || (f0 == 2)) && (f3 == 3)) from rfl)
        cases es : sel ⟨f0, f1, f2, ⟨f3, f4, f5, f6, f7⟩⟩
        · have E2 := Lib.hid (sd1_no L es)
          rw [es] at EV
          clear es
          cases e1 : (f0 == 1) <;> cases e2 : (f0 == 2) <;> cases e3 : (f3 == 3) <;> rw [e1, e2, e3] at EV <;> first
            | exact Bool.noConfusion EV.out
            | (go_wp2
               go_roundw
               case rel => exact ⟨k + 1, by omega, by go_num, by rw [ES.out, E2.out]; exact ho1.out, hb1⟩
               case measure => simp [intOf]; omega)
        · have E2 := Lib.hid (sd1_yes L es)
          rw [es] at EV
          clear es
          cases e1 : (f0 == 1) <;> cases e2 : (f0 == 2) <;> cases e3 : (f3 == 3) <;> rw [e1, e2, e3] at EV <;> try exact Bool.noConfusion EV.out
          all_goals clear EV
          all_goals
            go_wp2_with fail
            refine (add_any w.heap.size _ L [f7] _ _ _ (ho1.out.alloc _) (by simp; omega) ?_ (by rw [size_al, size_al]; omega)).mono ?_
            · intro W hW
              refine Rd.grown (rd_one _ f7 _ (by rw [size_al])) hW fun ad e1 e2 => ?_
              have h6 := (ho1.out.lt _ e2.symm).2
              injection e1 with e1
              rw [← e1] at h6
              rw [size_al] at h6
              exact absurd h6 (Nat.lt_irrefl _)
            rintro e w2 ⟨v2, rfl, ho2, hg2, _⟩
            have hb2 := (hb1.alloc (by rw [size_al]; omega) _).grown hg2 (by rw [size_al, size_al]; omega) (fun j hj => by have := (ho1.out.lt j hj).1; omega)
            rw [addL_one, ← E2.out, ← ES.out] at ho2
            have ho2 := Lib.hid ho2
            clear hg2
            go_wp2
            go_roundw
            case rel => exact ⟨k + 1, by omega, by go_num, ho2.out, hb2⟩
            case measure => simp [intOf]; omega
      · obtain rfl : k = l.length := by omega
        rw [List.take_length] at ho
        go_wp2
        go_step3
        rename_i K hK
        refine hK _ _ (hp _ _ ⟨sd l, 0, _, by omega, gd_sd l, clo_none _ _ _, ho, hb, ?_⟩)
        exact ⟨_, _, _, _, _, _, _, _, _, _, _, _, _, _, _, _, _, _, _, _, _, _, _, _, _, _, _, _, _, _, _, _, _, _, _, _, _, _, _, _, _, _, _, _, _, _, _, _, _, _, _, rfl⟩
end Go.Proofs.Ytgkjhnilgmokiaa.Of
