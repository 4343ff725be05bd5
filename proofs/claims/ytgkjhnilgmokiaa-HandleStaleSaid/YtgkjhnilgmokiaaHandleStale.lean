/-
  Of HandleStale: any puts and drops; each handle that was told, its slot and how old; once dropped it is stale.
-/
import Derived.Test.YtgkjhnilgmokiaaRows
import Derived.WalkKit
import Derived.WalkSpells
import Derived.WalkLawsBesides
import Derived.WalkMore
import Derived.ProofKit
import Derived.OpenShut
import Derived.ShutString
import Derived.ChangeOld
import Derived.Below
import Derived.SizedLaws
import Derived.Lib.Hide
import Derived.Test.YtgkjhnilgmokiaaOpen
import Derived.WalkArith
import Derived.Test.YtgkjhnilgmokiaaHs
namespace Go.Proofs.Ytgkjhnilgmokiaa.handleStale
open Go.RowKit Go.ChangeShapes Go.WideShapes Go.ChangeAt Go.Proofs.YtgkjhnilgmokiaaW.PrintWords
set_option linter.unusedVariables false
open Ha Hp Mi Hs
def S2 (w wr : World) (k : Nat) (s : Value) : Prop := ∃ (o : Nat → Int) (u : Nat → Bool) (a : Nat → Int) (l : List Int) (f g : Int → Option Int) (nf ng : Nat), Tab wr w.heap.size o u a ∧ IM wr (w.heap.size + 1) nf f ∧ IM wr (w.heap.size + 2) ng g ∧ Inv o u a l f g ∧
  (∀ i, 0 ≤ a i ∧ a i ≤ (k : Int)) ∧ wr.ownsRow (w.heap.size + 3) 3 1 s l.length (l.map (Value.int .i64)) ∧ l.length ≤ k ∧ nf ≤ k ∧ ng ≤ k ∧ Below w.heap.size w wr
theorem s20 (w : World) : S2 w (((w.alloc (.cells tab0 76)).alloc (.map #[] 0)).alloc (.map #[] 0)) 0 (.slice none 0 0) := by
  have h0 : Tab (w.alloc (.cells tab0 76)) w.heap.size (fun _ => 0) (fun _ => false) (fun _ => 0) := heap_alloc_new w _
  have m1 := (IM.made (w.alloc (.cells tab0 76))).alloc (.map #[] 0)
  have m2 := IM.made ((w.alloc (.cells tab0 76)).alloc (.map #[] 0))
  rw [size_al] at m1
  rw [size_al, size_al] at m2
  refine ⟨fun _ => 0, fun _ => false, fun _ => 0, [], fun _ => none, fun _ => none, 0, 0, tab_alloc (tab_alloc h0 _) _, m1, m2, Inv.start _, fun i => ⟨Int.le_refl _, Int.le_refl _⟩, World.ownsRow_nil _ _ _ _, Nat.le_refl _, Nat.le_refl _, Nat.le_refl _, ?_⟩
  exact (((Below.refl _ _).alloc (Nat.le_refl _) _).alloc (by rw [size_al]; omega) _).alloc (by rw [size_al, size_al]; omega) _
theorem s2_append {w w2 w4 : World} {k : Nat} {s v' : Value} {o : Nat → Int} {u : Nat → Bool} {a : Nat → Int} {l : List Int} {f g : Int → Option Int} {nf ng : Nat} {z : Int} {b : Obj} (T : Tab w2 w.heap.size o u a) (F : IM w2 (w.heap.size + 1) nf f) (G : IM w2 (w.heap.size + 2) ng g)
    (I : Inv o u a (l ++ [z]) f g) (ha : ∀ i, 0 ≤ a i ∧ a i ≤ (k : Int)) (L : w2.ownsRow (w.heap.size + 3) 3 1 s l.length (l.map (Value.int .i64))) (hlk : l.length ≤ k) (hnf : nf ≤ k + 1) (hng : ng ≤ k + 1)
    (hb : Below w.heap.size w w2) (ho : w4.ownsRow (w.heap.size + 3) 3 1 v' (l.length + 1) (l.map (Value.int .i64) ++ [.int .i64 z])) (hg : (w2.alloc b).grownBy w4 s.ownBlock) : S2 w w4 (k + 1) v' := by
  have n1 : s.ownBlock ≠ some w.heap.size := fun e => by have := (L.lt _ e).1; omega
  have n2 : some (w.heap.size + 1) ≠ s.ownBlock := fun e => by have := (L.lt _ e.symm).1; omega
  have n3 : some (w.heap.size + 2) ≠ s.ownBlock := fun e => by have := (L.lt _ e.symm).1; omega
  have h1 := T
  have hlt : w.heap.size < w2.heap.size := (Array.getElem?_eq_some_iff.1 h1).1
  refine ⟨o, u, a, l ++ [z], f, g, nf, ng, tab_keep (tab_alloc T b) hg n1, (F.alloc b).kept hg n2, (G.alloc b).kept hg n3, I, age_next ha, ?_, by rw [List.length_append]; simp; omega, hnf, hng, ?_⟩
  · rw [List.length_append, List.map_append]; exact ho
  · refine (hb.alloc (by omega) b).grown hg (by rw [size_al]; omega) (fun j hj => ?_)
    have := (L.lt j hj).1
    omega
theorem slot_q {h : Int} {m : Nat} {q : Int} (hm : m < 64) (e : h = (m : Int) + 64 * q) (h0 : 0 ≤ q) (h1 : q ≤ 100000) : IsSlot h m q := by
  refine ⟨by omega, hm, by omega, ?_⟩
  rw [Int.tdiv_eq_ediv_of_nonneg (by omega)]
  unfold wrap64
  omega
theorem wf_small {n : Int} (h0 : 0 ≤ n) (h1 : n ≤ 100000000) : (Lit.int .i64 n).wf = true := by
  exact Go.WalkArith.wf_i64 ⟨by omega, by omega⟩
theorem own' {w : World} : ∀ (k : Nat), some w.heap.size = some k → w.heap.size ≤ k := fun k hk => by injection hk with hk; omega
set_option maxHeartbeats 8000000 in
set_option maxRecDepth 20000 in
theorem walk (w : World) (A0 : Option Addr) (c0 : Nat) (x0 : List Hp.C4) (hc0 : x0.length ≤ c0) (hr0 : Kd.C Hp.k4 w A0 x0.length x0) (ok0 : x0.length ≤ maxLen ∧ ∀ y ∈ x0, Hp.okC y) :
    Calls Try.prog 5 #[.slice A0 x0.length c0] w fun e w' => e = .returned (.bool true) ∧ Below w.heap.size w w' := by
  have HR := Lib.hid hr0
  have HO := Lib.hid ok0
  clear hr0 ok0
  obtain ⟨i0, hi0, hz0, hz1, hz2⟩ := info_parts info3
  go_enter Try.func5, Try.ntmps5
  go_wp2_with fail
  refine (new_any _).mono ?_
  rintro e w' ⟨rfl, rfl⟩
  have HS := Lib.hid (s20 w)
  have mk : ∀ w, (Instr.makeMap 33 none).run Try.prog w = .ok (.map (some w.heap.size)) (w.alloc (.map #[] 0)) := fun _ => rfl
  go_wp2
  clear mk
  go_loopw [6, 7] (fun s i wr => ∃ k : Nat, k ≤ x0.length ∧ k ≤ 200 ∧ i = .int .i64 (k : Int) ∧ S2 w wr k s) (fun _ i _ => 200 - (intOf i).toNat)
  case atStart => exact ⟨0, by omega, by omega, rfl, HS.out⟩
  case round =>
    obtain ⟨k, hk, hk2, rfl, o, u, a, l, f, g, nf, ng, h1, h2, h3, h4, h5, h6, hlk, hnf, hng, hb⟩ := hrel
    by_cases hlt : k < x0.length ∧ k < 200
    · obtain ⟨ad, rfl, q0, q1, q2, q3⟩ := at_C4 (Kd.C_below HR.out hb) k hlt.1
      have hok : okC (x0.getD k z4) := by
        have := HO.out.2 (x0.getD k z4)
        refine this ?_
        rw [List.getD_eq_getElem?_getD, List.getElem?_eq_getElem hlt.1]
        exact List.getElem_mem hlt.1
      generalize x0.getD k z4 = x at q0 q1 q2 q3 hok
      have hl1 := hlt.1
      have hl2 := hlt.2
      clear hlt HS
      obtain ⟨f0, f1, f2, f3⟩ := x
      dsimp only at q0 q1 q2 q3
      have wf2 := Lib.hid hok.2.2
      clear hok HR HO
      have hC := Lib.hid (cb_new wr f0 f1 f2 f3)
      have T0 := Lib.hid (tab_alloc h1 (.cells #[.int .i64 f0, .int .i64 f1, .int .i64 f2, .bool f3] 44))
      have F0 := Lib.hid (h2.alloc (.cells #[.int .i64 f0, .int .i64 f1, .int .i64 f2, .bool f3] 44))
      have G0 := Lib.hid (h3.alloc (.cells #[.int .i64 f0, .int .i64 f1, .int .i64 f2, .bool f3] 44))
      have hsz : w.heap.size + 3 ≤ wr.heap.size := h3.lt
      have b0 := hb.alloc hb.size (.cells #[.int .i64 f0, .int .i64 f1, .int .i64 f2, .bool f3] 44)
      have L0 := h6.alloc (.cells #[.int .i64 f0, .int .i64 f1, .int .i64 f2, .bool f3] 44)
      obtain ⟨_, A5, c5, rfl, hrd⟩ := own_int L0
      have L0 := Lib.hid L0
      have HRD := Lib.hid hrd
      have IV := Lib.hid h4
      have ha := Lib.hid h5
      clear hrd h1 h2 h3 h4 h5 h6 hb
      have hcase : (f0 == 0) = true ∨ ((f0 == 0) = false ∧ l.length = 0) ∨ ((f0 == 0) = false ∧ 0 < l.length) := by
        cases h : (f0 == 0)
        · rcases Nat.eq_zero_or_pos l.length with h | h
          · exact .inr (.inl ⟨rfl, h⟩)
          · exact .inr (.inr ⟨rfl, h⟩)
        · exact .inl rfl
      have cne : ∀ z : Int, (z != z) = false := fun z => by rw [bne_eq_false_iff_eq]
      rcases hcase with e0 | ⟨e0, hl0⟩ | ⟨e0, hl0⟩
      rotate_left
      have hl0b : ((l.length : Int) == 0) = true := by rw [hl0]; rfl
      clear hl0
      rotate_left
      · obtain ⟨d, hd, he⟩ := modl f1 l.length hl0 (by omega)
        obtain ⟨ad5, rfl, hcl⟩ := HRD.out d hd
        have hmem : l.getD d 0 ∈ l := by
          rw [List.getD_eq_getElem?_getD, List.getElem?_eq_getElem hd]
          exact List.getElem_mem hd
        generalize l.getD d 0 = hv at hcl hmem
        obtain ⟨m, q, hm, ehv, hq0, hq1, hq2, hq3⟩ := IV.out.told hv hmem
        have ham := ha.out m
        have hs := slot_q hm ehv hq0 (by omega)
        have wv : (Lit.int .i64 hv).wf = true := wf_small (by omega) (by omega)
        have lg := G0.out.look hv wv
        have lf := F0.out.look hv wv
        clear HRD
        by_cases hqa : q < a m
        · rw [hq3 hqa] at lg
          have hno : hv < 0 ∨ ∃ m q, IsSlot hv m q ∧ (u m = false ∨ q ≠ a m) := .inr ⟨m, q, hs, .inr (by omega)⟩
          have HN := Lib.hid hno
          have SN : Hid (S2 w (wr.alloc (.cells #[.int .i64 f0, .int .i64 f1, .int .i64 f2, .bool f3] 44)) (k + 1) (.slice (some ad5) l.length c5)) := Lib.hid ⟨o, u, a, l, f, g, nf, ng, T0.out, F0.out, G0.out, IV.out, age_next ha.out, L0.out, by omega, by omega, by omega, b0⟩
          clear hno hq2 hq3 hs ehv hmem lf
          dsimp only [Option.getD] at lg
          go_wp2_with fail
          refine (get_no _ _ _ _ hv _ T0.out HN.out).mono ?_
          rintro e w1 ⟨rfl, rfl⟩
          go_wp2_with fail
          refine (drop_no _ _ _ _ hv _ T0.out HN.out).mono ?_
          rintro e w1 ⟨rfl, rfl⟩
          go_wp2
          go_roundw
          case rel => exact ⟨k + 1, by omega, by omega, by go_num, SN.out⟩
          case measure => simp [intOf]; omega
        · obtain rfl : q = a m := by omega
          obtain ⟨hu, hf, hg⟩ := hq2 rfl
          rw [hg] at lg
          rw [hf] at lf
          have HSl := Lib.hid hs
          have HU := Lib.hid hu
          have HM := Lib.hid hmem
          have EH := Lib.hid ehv
          clear hq2 hq3 hs ehv hmem hu hf hg
          dsimp only [Option.getD] at lg lf
          cases e2 : (f0 == 2)
          · have SN : Hid (S2 w (wr.alloc (.cells #[.int .i64 f0, .int .i64 f1, .int .i64 f2, .bool f3] 44)) (k + 1) (.slice (some ad5) l.length c5)) := Lib.hid ⟨o, u, a, l, f, g, nf, ng, T0.out, F0.out, G0.out, IV.out, age_next ha.out, L0.out, by omega, by omega, by omega, b0⟩
            go_wp2_with fail
            refine (get_yes _ _ _ _ hv m _ T0.out HSl.out HU.out).mono ?_
            rintro e w1 ⟨rfl, rfl⟩
            go_wp2
            go_roundw
            case rel => exact ⟨k + 1, by omega, by omega, by go_num, SN.out⟩
            case measure => simp [intOf]; omega
          · go_wp2_with fail
            refine (get_yes _ _ _ _ hv m _ T0.out HSl.out HU.out).mono ?_
            rintro e w1 ⟨rfl, rfl⟩
            go_wp2_with fail
            refine (drop_yes _ _ _ _ hv m _ T0.out HSl.out HU.out ham.1 (by omega)).mono ?_
            rintro e w1 ⟨rfl, T1, g1⟩
            have F1 := F0.out.kept g1 (by intro e; injection e with e; omega)
            have G1 := G0.out.kept g1 (by intro e; injection e with e; omega)
            have L1 := own_keep L0.out g1 (by omega)
            have b1 := b0.grown g1 b0.size own'
            obtain ⟨w2, hst, G2, g2⟩ := G1.store (by unfold maxLen; omega) hv 1 wv (by decide)
            have T2 := tab_keep T1 g2 (by intro e; injection e with e; omega)
            have F2 := F1.kept g2 (by intro e; injection e with e; omega)
            have L2 := own_keep L1 g2 (by omega)
            have b2 := b1.grown g2 b1.size (fun k hk => by injection hk with hk; omega)
            have ID := Inv.drop IV.out hm (EH.out ▸ HM.out) 0
            rw [← EH.out] at ID
            have SN : Hid (S2 w w2 (k + 1) (.slice (some ad5) l.length c5)) := Lib.hid ⟨_, _, _, l, f, _, nf, ng + 1, T2, F2, G2, ID, drop_age ha.out m, L2, by omega, by omega, by omega, b2⟩
            clear T1 T2 F1 F2 G1 G2 L1 L2 b1 b2 ID g1 g2
            go_wp2
            go_roundw
            case rel => exact ⟨k + 1, by omega, by omega, by go_num, SN.out⟩
            case measure => simp [intOf]; omega
      all_goals
        go_wp2_with fail
        rcases least_free u 64 with hfull | ⟨m, hm, hum, hml⟩
        · refine (put_full _ _ _ _ f2 _ T0.out hfull).mono ?_
          rintro e w1 ⟨rfl, rfl⟩
          have SN : Hid (S2 w (wr.alloc (.cells #[.int .i64 f0, .int .i64 f1, .int .i64 f2, .bool f3] 44)) (k + 1) (.slice A5 l.length c5)) := Lib.hid ⟨o, u, a, l, f, g, nf, ng, T0.out, F0.out, G0.out, IV.out, age_next ha.out, L0.out, by omega, by omega, by omega, b0⟩
          go_wp2
          go_roundw
          case rel => exact ⟨k + 1, by omega, by omega, by go_num, SN.out⟩
          case measure => simp [intOf]; omega
        · have ham := ha.out m
          refine (put_free _ _ _ _ f2 _ T0.out m hm hum hml ham.1 (by omega)).mono ?_
          rintro e w1 ⟨rfl, T1, g1⟩
          have F1 := F0.out.kept g1 (by intro e; injection e with e; omega)
          have G1 := G0.out.kept g1 (by intro e; injection e with e; omega)
          have C1 := hC.out.keep g1 (by intro e; injection e with e; omega)
          have c2 := C1.c2
          have L1 := own_keep L0.out g1 (by omega)
          have b1 := b0.grown g1 b0.size own'
          have wz : (Lit.int .i64 ((m : Int) + 64 * a m)).wf = true := wf_small (by omega) (by omega)
          have lk := F1.look_ok _ wz
          rw [IV.out.none_f (IV.out.fresh hm hum)] at lk
          dsimp only [Option.getD, Option.isSome] at lk
          obtain ⟨w2, hst, F2, g2⟩ := F1.store (by unfold maxLen; omega) _ f2 wz wf2.out
          have T2 := Lib.hid (tab_keep T1 g2 (by intro e; injection e with e; omega))
          have G2 := Lib.hid (G1.kept g2 (by intro e; injection e with e; omega))
          have F2 := Lib.hid F2
          have L2 := Lib.hid (own_keep L1 g2 (by omega))
          have b2 := b1.grown g2 b1.size (fun k hk => by injection hk with hk; omega)
          have IP := Lib.hid (Inv.put IV.out hm hum ham.1 f2)
          have hsz2 : w.heap.size + 2 < w2.heap.size := G2.out.lt
          clear g1 g2 T1 F1 G1 C1 L1 hml hum
          go_wp2_with (at_builtin; refine wpList_append_own _ rfl (.tmp 61) (.tmp 63) _ rfl (w.heap.size + 3) 3 i0 (.int .i64 0) 1 8 Try.underlying27 hi0 hz0 hz1 hz2 rfl (by decide) _ _ _ rfl (L2.out.alloc _) ⟨w2.heap.size, 0, none⟩ 1 1 [.int .i64 ((m : Int) + 64 * a m)] rfl rfl ?c1 ?c2 ?c3 ?c4 ?c5 ?_)
          case c1 => exact cell_one_new _ _ _
          case c2 => intro v hv; simp only [List.mem_singleton] at hv; subst hv; rfl
          case c3 => simp only [maxLen]; omega
          case c4 => omega
          case c5 => exact (by rw [size_al]; omega)
          intro v' w4 ho1 hg1 _
          have SN := Lib.hid (s2_append T2.out F2.out G2.out IP.out ha.out L2.out hlk (by omega) (by omega) b2 ho1 hg1)
          clear ho1 hg1
          go_wp2
          go_roundw
          case rel => exact ⟨k + 1, by omega, by omega, by go_num, SN.out⟩
          case measure => simp [intOf]; omega
    · have hx : x0.length ≤ k ∨ (k < x0.length ∧ 200 ≤ k) := by omega
      clear hlt h1 h2 h3 h4 h5 h6 HS HR HO
      rcases hx with hx | ⟨hx1, hx2⟩
      all_goals
        go_wp2_with fail
        refine (awake_any _).mono ?_
        rintro e w5 ⟨rfl, hb5⟩
        have f5 := hb.trans (hb5.mono hb.size)
        go_wp2
        go_ret
        exact ⟨rfl, f5⟩

theorem own : ownKnob Try.prog.godebug = none := by kernel_rfl
theorem laidOut : laidOutB Try.prog = true := by kernel_rfl
set_option maxRecDepth 100000 in
theorem lifted (os : Os) (started : os.Started) (H : Type) (enc : TypeId × Value → H) :
    ReturnsInHanded {} Try.checked os 5 .any (Rows.handleStaleSpec.pre6 enc Try.prog Try.f5 Rows.handleStaleRow.domain false) (Rows.handleStaleSpec.post enc Try.prog Try.f5 false true false false) := by
  refine returnsInHanded_of_change (C := Try.checked) own started (by kernel_rfl) Try.func5
    (ChangeSpec.witness6 (enc := enc) (C := Try.checked) false ⟨#[], #[.slice none 0 0], []⟩ 8 (by kernel_rfl) (by kernel_rfl) (by kernel_rfl) (by kernel_rfl)) ?_
  intro W base args ds gs before hval0 hW hcnd _
  have hval : ∀ (j : Nat) t v, Try.f5.params[j]? = some t → args[j]? = some v → Value.okWide Try.prog W .any base t v := hval0
  have hW' := hW
  obtain ⟨p, q, hA0, hV, rfl, hfz, hnd⟩ := hW
  have hA : DataW.TrodAll enc Try.prog W 0 (fun _ => true) true Try.f5.params.toList args.toList ds p := hA0
  rw [Try.params5] at hA hval
  obtain ⟨v0, vs0, d0, ds0, p0, q0, hargs, rfl, rfl, h0, r0⟩ := trodAll_cons hA
  obtain ⟨rfl, rfl, rfl⟩ := trodAll_nil r0
  obtain rfl : args = #[v0] := by cases args; simp_all
  obtain ⟨rfl, rfl⟩ := trodVars_none hV
  obtain ⟨a0, len0, cap0, rfl⟩ := okWide_slice Try.underlying40 (hval 0 40 v0 rfl rfl)
  have k0 := h0
  have lt0 : ∀ x ∈ p0, x.block < W.heap.size := by obtain ⟨m, hm⟩ := k0; exact DataW.trod_lt m _ _ _ hm
  obtain ⟨fuel0, hf0⟩ := h0
  obtain ⟨x0, ⟨A0, c0, e0, hc0, hr0⟩, ok0⟩ := Op.opens_slice (n := 44) Try.underlying40 (by kernel_rfl) (Hp.opens_call) H enc W 0 _ _ _ _ _ hf0
  obtain ⟨rfl, rfl, rfl⟩ : a0 = A0 ∧ len0 = x0.length ∧ cap0 = c0 := by simpa [Value.cells] using e0
  clear hA0 hval0
  refine (walk W _ _ x0 hc0 hr0 ok0).mono fun e W' ⟨he, bel⟩ => ?_
  subst he
  exact ⟨_, rfl, _, _, _, [], _, [], hW', trodAll_mk1 (shut_bool Try.underlying4 _), (trodAll_cons_mk (Below.trod laidOut (by kernel_rfl) (of_decide_eq_true (by kernel_rfl)) k0 bel lt0) trodAll_mk0), rfl, bel.frame _, fun h => by cases h⟩
theorem over : Rows.handleStaleRow.holds Try.pinned (OpenSpec.ofChange Rows.handleStaleSpec) :=
  OpenClaim.holds_of_wide 5 Try.f5 rfl rfl rfl rfl rfl rfl rfl ⟨rfl, rfl, rfl, rfl, rfl⟩ rfl rfl rfl rfl rfl (by kernel_rfl) Try.func5 (by kernel_rfl)
    (of_decide_eq_true (by kernel_rfl)) (by unfold Func.isWrapper; first | (rw [if_pos (by decide +kernel)]; kernel_rfl) | (rw [if_neg (by decide +kernel)]; exact ⟨rfl, rfl⟩))
    (fun os started H enc _ => lifted os started H enc)
theorem proved : Rows.HandleStaleSaid := over
#print axioms proved
end Go.Proofs.Ytgkjhnilgmokiaa.handleStale
