/- The reference's Put and SameInts. -/
import Derived.Test.YtmdjbldmfmoaaaaBr
namespace Go.Proofs.Ytmdjbldmfmoaaaa.Bv
open Go.RowKit Go.ChangeShapes Go.WideShapes Go.Proofs.YtmdjbldmfmoaaaaW.PrintWords Go.Proofs.Ytmdjbldmfmoaaaa.Ba Go.Proofs.Ytmdjbldmfmoaaaa.Bu Go.Proofs.Ytmdjbldmfmoaaaa.Bw Go.Proofs.Ytmdjbldmfmoaaaa.Bl Go.Proofs.Ytmdjbldmfmoaaaa.Bn Go.Proofs.Ytmdjbldmfmoaaaa.Bs Go.Proofs.Ytmdjbldmfmoaaaa.Br
set_option linter.unusedVariables false
theorem sames_any (A B : Option Addr) (c d : Nat) (l : List Int) (w : World) (hl : l.length ≤ 1000) (hA : Rd w A l) (hB : Rd w B l) :
    Calls Try.prog 23 #[.slice A l.length c, .slice B l.length d] w (BoolPost true w) := by
  have HA := Lib.hid hA
  have HB := Lib.hid hB
  clear hA hB
  have cne : ∀ z : Int, (z != z) = false := fun z => by rw [bne_eq_false_iff_eq]
  go_enter Try.func23, Try.ntmps23
  go_wp2
  go_loopw [13] (fun i wr => ∃ k : Nat, k ≤ l.length ∧ i = .int .i64 (k : Int) ∧ wr.heap = w.heap ∧ Below w.heap.size w wr) (fun i _ => l.length - (intOf i).toNat)
  case atStart => exact ⟨0, by omega, rfl, rfl, Below.refl _ _⟩
  case round =>
    obtain ⟨k, hk, rfl, hh, hb⟩ := hrel
    by_cases hlt : k < l.length
    · obtain ⟨ad, rfl, hc⟩ := HA.out k hlt
      obtain ⟨ae, rfl, hd⟩ := HB.out k hlt
      rw [← cell_heap hh] at hc hd
      generalize l.getD k 0 = z at hc hd
      have HH := Lib.hid hh
      clear hh
      go_wp2
      go_region
      go_wp2
      go_roundw
      case rel => exact ⟨k + 1, by omega, by go_num, HH.out, hb.drew⟩
      case measure => simp [intOf]; omega
    · obtain rfl : k = l.length := by omega
      go_wp2
      go_ret
      exact ⟨rfl, hb⟩
theorem same_place {k o f : Int} {y : W8} (hm : matchP k o f y = true) (hn : norm y = y) (ho : (k == 1) = false → o = 0) (r : V5) : (⟨y.kind, y.obj, y.field, r⟩ : W8) = ⟨k, o, f, r⟩ := by
  obtain ⟨a, b, c, v⟩ := y
  unfold matchP at hm
  simp only [Bool.and_eq_true, beq_iff_eq, Bool.or_eq_true, bne_iff_ne] at hm
  obtain ⟨⟨h1, h2⟩, h3⟩ := hm
  dsimp only at h1 h2 h3 ⊢
  subst h1 h2
  have hob : (if (a == 1) = true then b else 0) = b := congrArg W8.obj hn
  rcases h3 with h3 | h3
  · have e : (a == 1) = false := by simp [h3]
    rw [e, if_neg (by decide)] at hob
    rw [← hob, ho e]
  · rw [h3]
theorem R8.setV {w : World} {base b n cap : Nat} {l : List W8} (h : R8 w base (.slice (some ⟨b, 0, none⟩) n cap) l) (i : Nat) (hi : i < l.length) (r : V5) (x : W8) (hx : (⟨(l.getD i z8).kind, (l.getD i z8).obj, (l.getD i z8).field, r⟩ : W8) = x) :
    R8 (w.setCells b (i * 8 + 3) r.cs) base (.slice (some ⟨b, 0, none⟩) n cap) (l.set i x) ∧ w.grownBy (w.setCells b (i * 8 + 3) r.cs) (some b) := by
  have hn := (Kd.R_reads' h).1
  obtain ⟨ad, c, e, hcl, hK, hc⟩ := Kd.C_get (Kd.R_reads' h).2.2 z8 (i : Int) (by omega) (by omega)
  injection e with e
  subst e
  rw [Int.toNat_natCast] at hc hK
  have hcc := k8_open hK
  have hcl8 : c.length = 8 := hcl
  have hx5 : r.cs.length = 5 := rfl
  have := Kd.R_seg (d := k8) (okp := fun _ => False) h (i : Int) (by omega) (by omega) hcl (j := 3) (seg := r.cs) (x' := x) (c := c) (fun j u hu => by
    have := hc j u hu
    rw [Int.toNat_natCast]
    have e2 : (⟨b, 0, none⟩ : Addr).add (i * k8.sz + j) = ⟨b, i * k8.sz + j, none⟩ := add_plain _ _
    rw [e2] at this
    exact this) (by rw [hx5]; decide) (by
      have : c.take 3 ++ r.cs ++ c.drop (3 + r.cs.length) = x.cs := by rw [hcc, ← hx]; rfl
      rw [this]
      exact k8_M _ _ _ x) (fun k hk => hk.elim)
  rw [Int.toNat_natCast] at this
  exact this
theorem R8.thereV {w : World} {base b n cap : Nat} {l : List W8} (h : R8 w base (.slice (some ⟨b, 0, none⟩) n cap) l) (i : Nat) (hi : i < l.length) : w.there b (i * 8 + 3) 5 := by
  intro j hj
  have := R8.there h i hi (3 + j) (by omega)
  rw [← Nat.add_assoc] at this
  exact this
theorem one_C {W : World} {b : Nat} {x : W8} (h : Bx8 W b x) : Kd.C k8 W (some ⟨b, 0, none⟩) 1 [x] := by
  refine ⟨rfl, by decide, fun _ => ⟨_, rfl, fun j p hp => ?_⟩⟩
  have hj : j = 0 := by
    cases j with
    | zero => rfl
    | succ j => simp at hp
  subst hj
  simp only [List.getElem?_cons_zero, Option.some.injEq] at hp
  subst hp
  refine ⟨x.cs, rfl, k8_K _ _, fun i u hu => ?_⟩
  have e2 : (⟨b, 0, none⟩ : Addr).add (0 * k8.sz + i) = ⟨b, i, none⟩ := (Go.Proofs.YtmdjbldmfmoaaaaW.PrintWords.add_plain b (0 * k8.sz + i)).trans (by rw [Nat.zero_mul, Nat.zero_add])
  rw [e2, cell_of_row W b _ _ 31 (0, 0) h, ← hu]
  simp [W8.cs]
def RPost (B g : Nat) (v : Value) (l : List W8) (x : W8) (w : World) (e : Ending) (w' : World) : Prop := e = .returned (.int .i64 (putE l x)) ∧ ∃ v', Rf w' B g v' (putL l x) ∧ Kp w w' g (.slice none 0 0) ∧ (v'.ownBlock = v.ownBlock ∨ ∃ b, v'.ownBlock = some b ∧ w.heap.size ≤ b)
set_option maxHeartbeats 8000000 in
theorem rput_any (B g : Nat) (v : Value) (l : List W8) (x : W8) (w : World) (hf : Rf w B g v l) (hn : ∀ y ∈ l, norm y = y) : Calls Try.prog 21 #[.pointer (some ⟨g, 0, none⟩), agg8 x] w (RPost B g v l x w) := by
  have h64 := hf.2.2.2
  have HF := Lib.hid hf
  have hgl := hf.lt
  have hBg := hf.2.2.1
  have HNO := Lib.hid hn
  obtain ⟨b, hb⟩ : ∃ b, mayB x = b := ⟨_, rfl⟩
  have HKD : Hid (b = true → 0 ≤ x.v.kd ∧ x.v.kd ≤ 3) := Lib.hid (fun h => may_kd (hb.trans h))
  obtain ⟨f0, f1, f2, ⟨f3, f4, f5, f6, f7⟩⟩ := x
  unfold agg8
  dsimp only at HKD ⊢
  have hb0 := (Below.refl w.heap.size w).alloc (Nat.le_refl _) (.cells #[.int .i64 f0, .int .i64 f1, .int .i64 f2, .int .i64 f3, .int .i64 f4, .int .u64 f5, .int .u64 f6, .int .i64 f7] 31)
  have HX0 : Hid (Bx8 (w.alloc (.cells #[.int .i64 f0, .int .i64 f1, .int .i64 f2, .int .i64 f3, .int .i64 f4, .int .u64 f5, .int .u64 f6, .int .i64 f7] 31)) w.heap.size ⟨f0, f1, f2, ⟨f3, f4, f5, f6, f7⟩⟩) := Lib.hid (heap_alloc_new w _)
  have HM := Lib.hid hb
  have HMA := Lib.hid (rmay_any ⟨f0, f1, f2, ⟨f3, f4, f5, f6, f7⟩⟩ (w.alloc (.cells #[.int .i64 f0, .int .i64 f1, .int .i64 f2, .int .i64 f3, .int .i64 f4, .int .u64 f5, .int .u64 f6, .int .i64 f7] 31)))
  rw [hb] at HMA
  clear hf hb hn
  cases b
  · go_enter Try.func21, Try.ntmps21
    go_wp2_with fail
    refine HMA.out.mono ?_
    rintro e w1 ⟨rfl, hb1⟩
    have hb2 := hb0.trans (hb1.mono hb0.size)
    have HE : Hid (putE l ⟨f0, f1, f2, ⟨f3, f4, f5, f6, f7⟩⟩ = 1) := Lib.hid (by unfold putE; rw [HM.out]; rfl)
    have HL : Hid (putL l ⟨f0, f1, f2, ⟨f3, f4, f5, f6, f7⟩⟩ = l) := Lib.hid (by unfold putL; rw [HM.out]; rfl)
    clear hb0 hb1 HMA
    go_wp2
    go_ret
    refine ⟨by rw [HE.out]; rfl, v, ?_, Kp.of_below hb2 _ _, .inl rfl⟩
    rw [HL.out]
    exact HF.out.later hb2
  · have HKD := Lib.hid (HKD.out rfl)
    have HE : Hid (putE l ⟨f0, f1, f2, ⟨f3, f4, f5, f6, f7⟩⟩ = (if l.findIdx (mN ⟨f0, f1, f2, ⟨f3, f4, f5, f6, f7⟩⟩) < l.length then 0 else if l.length = 64 then 9 else 0)) := Lib.hid (by unfold putE; rw [HM.out]; rfl)
    have HL : Hid (putL l ⟨f0, f1, f2, ⟨f3, f4, f5, f6, f7⟩⟩ = (if l.findIdx (mN ⟨f0, f1, f2, ⟨f3, f4, f5, f6, f7⟩⟩) < l.length then l.set (l.findIdx (mN ⟨f0, f1, f2, ⟨f3, f4, f5, f6, f7⟩⟩)) (norm ⟨f0, f1, f2, ⟨f3, f4, f5, f6, f7⟩⟩) else if l.length = 64 then l else l ++ [norm ⟨f0, f1, f2, ⟨f3, f4, f5, f6, f7⟩⟩])) := Lib.hid (by unfold putL; rw [HM.out]; rfl)
    have HN := Lib.hid (show norm ⟨f0, f1, f2, ⟨f3, f4, f5, f6, f7⟩⟩ = ⟨f0, if (f0 == 1) = true then f1 else 0, f2, told5 ⟨f3, f4, f5, f6, f7⟩⟩ from rfl)
    have HTA := Lib.hid (fun W => plain_any ⟨f3, f4, f5, f6, f7⟩ HKD.out.1 HKD.out.2 W)
    obtain ⟨r, hr⟩ : ∃ r, told5 ⟨f3, f4, f5, f6, f7⟩ = r := ⟨_, rfl⟩
    unfold ToldPost at HTA
    rw [hr] at HN HTA
    obtain ⟨r0, r1, r2, r3, r4⟩ := r
    clear hr HKD
    have hcase : (f0 == 1) = true ∨ (f0 == 1) = false := by cases (f0 == 1) <;> simp
    go_enter Try.func21, Try.ntmps21
    go_wp2_with fail
    refine HMA.out.mono ?_
    rintro e w1 ⟨rfl, hb1⟩
    have HX1 := HX0.out.below hb1 (by rw [size_al]; omega)
    obtain ⟨p0, p1, p2, p3, p4, p5, p6, p7⟩ := HX1.cells
    have hs1 := hb1.size
    rw [size_al] at hs1
    have hbw1 := hb0.trans (hb1.mono hb0.size)
    have HX1 := Lib.hid HX1
    clear hb0 hb1 HMA HX0
    go_wp2_with fail
    refine (HTA.out _).mono ?_
    rintro e w2 ⟨rfl, hb2⟩
    have hx2 := HX1.out.below hb2 (by omega)
    have hbw2 := hbw1.trans (hb2.mono hbw1.size)
    have hs2 := hb2.size
    have HTH := Lib.hid hx2.there
    obtain ⟨w3, hw3, hx3, hg3⟩ := hx2.store ⟨r0, r1, r2, r3, r4⟩
    have HW3 := Lib.hid hw3
    have hbw3 := hbw2.grown hg3 hbw2.size (fun k hk => by injection hk with hk; omega)
    have hs3 := hg3.size
    have z1 := hx3.frozen 1
    have HX3 := Lib.hid hx3
    obtain ⟨p0, p1, p2, p3, p4, p5, p6, p7⟩ := hx3.cells
    clear hb2 hbw1 hbw2 hx2 hx3 hg3 hw3 HX1 HTA
    unfold agg5
    dsimp only
    rcases hcase with e1 | e1
    · rw [e1, if_pos rfl] at HN
      have HO : Hid ((f0 == 1) = false → (f1 : Int) = 0) := Lib.hid (fun h => absurd h (by rw [e1]; decide))
      have HF3 := Lib.hid (HF.out.later hbw3)
      have HBW := Lib.hid hbw3
      have HXX := HX3
      have HLT := Lib.hid (show w.heap.size < w3.heap.size by omega)
      clear hbw3 HX3
      go_wp2_with (refine store_named (P := Try.prog) rfl 28 (.tmp 12) (.tmp 11) rfl w.heap.size 3 #[.int .i64 r0, .int .i64 r1, .int .u64 r2, .int .u64 r3, .int .i64 r4] rfl rfl HTH.out infoV (one5 _ _ _ _ _) HW3.out ?_)
      refine (rat_any B g v l f0 f1 f2 _ HF3.out).mono ?_
      rintro e w4 ⟨rfl, hb4⟩
      have hbw4 := HBW.out.trans (hb4.mono HBW.out.size)
      have hx4 := HXX.out.below hb4 HLT.out
      have hf4 := HF.out.later hbw4
      have hc4 := hf4.cell
      have hz4 := hf4.free
      have hgl4 := hf4.lt
      have hbs4 := hbw4.size
      have HF4 := Lib.hid hf4
      have HBW4 := Lib.hid hbw4
      have HMN : Hid (mN ⟨f0, f1, f2, ⟨f3, f4, f5, f6, f7⟩⟩ = matchP f0 f1 f2) := Lib.hid (by funext y; unfold mN; rw [HN.out])
      rw [HMN.out] at HE HL
      rw [HN.out] at HL
      obtain ⟨q0, q1, q2, q3, q4, q5, q6, q7⟩ := hx4.cells
      have HX4 := Lib.hid hx4
      have HIX : Hid (∀ h : l.findIdx (matchP f0 f1 f2) < l.length, matchP f0 f1 f2 (l.getD (l.findIdx (matchP f0 f1 f2)) z8) = true) := Lib.hid (fun h => by rw [getD_at h]; exact List.findIdx_getElem (w := h))
      obtain ⟨i, hi⟩ : ∃ i, l.findIdx (matchP f0 f1 f2) = i := ⟨_, rfl⟩
      have HFI := Lib.hid (show fi f0 f1 f2 l = if i < l.length then (i : Int) else -1 by unfold fi; rw [hi])
      rw [HFI.out]
      rw [hi] at HE HL HIX
      clear hi hb4 hbw4 hx4 hf4 p0 p1 p2 p3 p4 p5 p6 p7 z1 HBW HXX HLT HFI HMN
      by_cases hil : i < l.length
      · rw [if_pos hil] at HE HL ⊢
        have HPL := Lib.hid (same_place (HIX.out hil) (HNO.out _ (mem_getD hil)) HO.out ⟨r0, r1, r2, r3, r4⟩)
        clear HIX HO HNO
        obtain ⟨A, c, rfl, hlc, hC⟩ := HF4.out.2.1.reads
        have HC := Lib.hid hC
        clear hC
        have HR0 := Lib.hid (R8.nil w4 w.heap.size)
        go_wp2_with (at_builtin; refine Kd.R_append_rows (P := Try.prog) k8 (w0 := w) (W := w4) (Rr := k8.K _) w.heap.size rfl (.const (.slice none 0 0)) (.tmp 31) 32 31 zW 64 rfl Try.underlying32 infoW rfl (by decide) (by decide) _ [] l A l.length c (fun _ => True) (fun _ => False) rfl rfl HR0.out HC.out (fun _ _ h => k8_KM h) (fun _ h => h.elim) (fun _ _ => trivial) HBW4.out hbs4 ?c1 ?_)
        case c1 => first | omega | (simp; omega)
        intro v3 w5 hr3 hb3 hg3 _
        have hr3 : R8 w5 w.heap.size v3 l := hr3
        obtain ⟨bb, cap, rfl, hbb, hbl⟩ := R8.form hr3 (by omega)
        have hh5 := (hg3.block g hgl4 (by simp [Value.ownBlock])).trans HF4.out.1
        have hc5 := cell_of_one hh5
        have hz5 := free_of_one hh5
        have hx5 := (hg3.block w.heap.size (Array.getElem?_eq_some_iff.1 HX4.out).1 (by simp [Value.ownBlock])).trans HX4.out
        have h6g : ((w5.setCell ⟨g, 0, none⟩ (.slice (some ⟨bb, 0, none⟩) l.length cap)).heap[g]? : Option Obj) = some (.cells #[(.slice (some ⟨bb, 0, none⟩) l.length cap)] 49 (0, 0)) := one_setCell hh5
        have h6x : (w5.setCell ⟨g, 0, none⟩ (.slice (some ⟨bb, 0, none⟩) l.length cap)).heap[w.heap.size]? = w5.heap[w.heap.size]? := Below.heap_setCell w5 _ _ _ (fun e => by simp only at e; omega)
        have h6b : (w5.setCell ⟨g, 0, none⟩ (.slice (some ⟨bb, 0, none⟩) l.length cap)).heap[bb]? = w5.heap[bb]? := Below.heap_setCell w5 _ _ _ (fun e => by simp only at e; omega)
        have HG6 := Lib.hid (grown_set w5 g 0 (.slice (some ⟨bb, 0, none⟩) l.length cap))
        obtain ⟨w6, hw6⟩ : ∃ w6, w5.setCell ⟨g, 0, none⟩ (.slice (some ⟨bb, 0, none⟩) l.length cap) = w6 := ⟨_, rfl⟩
        rw [hw6] at h6g h6x h6b HG6
        have HW6 := Lib.hid hw6
        have hc6 := cell_of_one h6g
        obtain ⟨p0, p1, p2, p3, p4, p5, p6, p7⟩ := Bx8.cells (show Bx8 w6 w.heap.size _ from h6x.trans hx5)
        have hr6 : R8 w6.drew w.heap.size (.slice (some ⟨bb, 0, none⟩) l.length cap) l := R8.move hr3 fun k hk => by
          simp only [Value.ownBlock, Option.some.injEq] at hk
          subst hk
          exact h6b
        have HTB := Lib.hid (R8.thereV hr6 i hil)
        have hs := R8.setV hr6 i hil ⟨r0, r1, r2, r3, r4⟩ _ HPL.out
        obtain ⟨w7, hw7⟩ : ∃ w7, w6.drew.setCells bb (i * 8 + 3) (V5.cs ⟨r0, r1, r2, r3, r4⟩) = w7 := ⟨_, rfl⟩
        rw [hw7] at hs
        have HW7 := Lib.hid hw7
        have h6 : w6.drew.heap[g]? = some (.cells #[(.slice (some ⟨bb, 0, none⟩) l.length cap)] 49 (0, 0)) := h6g
        have HB7 : Hid (Rf w7 B g (.slice (some ⟨bb, 0, none⟩) l.length cap) (l.set i ⟨f0, f1, f2, ⟨r0, r1, r2, r3, r4⟩⟩)) := Lib.hid ⟨(hs.2.block g (Array.getElem?_eq_some_iff.1 h6).1 (fun e => by injection e with e; omega)).trans h6, hs.1.lower (by omega), hBg, by rw [List.length_set]; exact h64⟩
        have HK7 : Hid (Kp w w7 g (.slice none 0 0)) := Lib.hid ((((Kp.of_below hb3 g (.slice none 0 0)).trans (Kp.of_grown_g HG6.out (.slice none 0 0)) (.inl rfl)).trans (Kp.of_below (Below.refl _ _).drew g (.slice none 0 0)) (.inl rfl)).trans (Kp.of_grown_v (v := .slice (some ⟨bb, 0, none⟩) l.length cap) (by simpa [Value.ownBlock] using hs.2) g) (.inr ⟨bb, rfl, hbb⟩))
        clear hs hw7 h6 hr6 hr3 hb3 hg3 hh5 hx5 hc4 hz4 HX4 q0 q1 q2 q3 q4 q5 q6 q7 h6g h6x h6b hw6
        go_wp2
        rw [HW6.out]
        go_still_tail 9, (by kernel_rfl)
        refine store_named (P := Try.prog) rfl 28 (.tmp 43) (.tmp 41) rfl bb (i * 8 + 3) #[.int .i64 r0, .int .i64 r1, .int .u64 r2, .int .u64 r3, .int .i64 r4] rfl rfl HTB.out infoV (one5 _ _ _ _ _) HW7.out ?_
        go_wp2
        go_ret
        refine ⟨by rw [HE.out]; rfl, .slice (some ⟨bb, 0, none⟩) l.length cap, ?_, HK7.out, .inr ⟨bb, rfl, hbb⟩⟩
        rw [HL.out]
        exact HB7.out
      · rw [if_neg hil] at HE HL ⊢
        clear HIX HO HNO
        obtain ⟨A, c, rfl, hlc, hC⟩ := HF4.out.2.1.reads
        have HC := Lib.hid hC
        clear hC
        by_cases h64' : l.length = 64
        · rw [if_pos h64'] at HE HL
          have e64 : (64 : Int) ≤ (l.length : Int) := by omega
          go_wp2
          go_ret
          refine ⟨by rw [HE.out]; rfl, _, ?_, Kp.of_below HBW4.out _ _, .inl rfl⟩
          rw [HL.out]
          exact HF4.out
        · rw [if_neg h64'] at HE HL
          have e64 : (l.length : Int) < 64 := by omega
          have hd := HBW4.out.drew
          have HBd := Lib.hid hd
          have HBa := Lib.hid (hd.alloc hd.size (.cells #[.int .i64 f0, .int .i64 f1, .int .i64 f2, .int .i64 r0, .int .i64 r1, .int .u64 r2, .int .u64 r3, .int .i64 r4] 31))
          have hsd := hd.size
          have hsa := HBa.out.size
          have HCd : Hid (Kd.C k8 w4.drew A l.length l) := Lib.hid (Kd.C_below HC.out (Below.refl w4.heap.size w4).drew)
          have HCa := Lib.hid (Kd.C_below HCd.out ((Below.refl w4.drew.heap.size w4.drew).alloc (Nat.le_refl _) (.cells #[.int .i64 f0, .int .i64 f1, .int .i64 f2, .int .i64 r0, .int .i64 r1, .int .u64 r2, .int .u64 r3, .int .i64 r4] 31)))
          have HXd : Hid (Bx8 w4.drew w.heap.size ⟨f0, f1, f2, ⟨r0, r1, r2, r3, r4⟩⟩) := Lib.hid HX4.out
          have HXa : Hid (Bx8 (w4.drew.alloc (.cells #[.int .i64 f0, .int .i64 f1, .int .i64 f2, .int .i64 r0, .int .i64 r1, .int .u64 r2, .int .u64 r3, .int .i64 r4] 31)) w4.heap.size ⟨f0, f1, f2, ⟨r0, r1, r2, r3, r4⟩⟩) := Lib.hid (heap_alloc_new w4.drew _)
          have hlx : w.heap.size < w4.drew.heap.size := (Array.getElem?_eq_some_iff.1 HX4.out).1
          have hla : w4.heap.size < (w4.drew.alloc (.cells #[.int .i64 f0, .int .i64 f1, .int .i64 f2, .int .i64 r0, .int .i64 r1, .int .u64 r2, .int .u64 r3, .int .i64 r4] 31)).heap.size := by rw [size_al]; exact Nat.lt_succ_self _
          have hlx4 : w.heap.size < w4.heap.size := hlx
          have hl0 : (([] : List W8).length + l.length) * 64 ≤ 140737488355328 := by simp; omega
          have hl1 : ((([] : List W8) ++ l).length + 1) * 64 ≤ 140737488355328 := by simp; omega
          have hl2 : ((([] : List W8) ++ l).length + 1) * 64 ≤ 140737488355328 := hl1
          clear hd
          go_wp2
          go_region_law (first
            | (refine Kd.R_append_rows_step (P := Try.prog) k8 (w0 := w) (W := w4.drew) (Rr := k8.K _) w.heap.size (by rfl) (.const (.slice none 0 0)) (.tmp 54) 32 31 zW 64 (by rfl) Try.underlying32 infoW rfl (by decide) (by decide) (.slice none 0 0) [] l A l.length c (fun _ => True) (fun _ => False) (by rfl) (by rfl) (R8.nil _ _) HCd.out (fun _ _ h => k8_KM h) (fun _ h => h.elim) (fun _ _ => trivial) HBd.out hsd hl0 ?_; intro v1 w5 hr5 hb5 hg5 hat5; obtain ⟨A9, c9, rfl, _, _⟩ := Kd.R_reads hr5; have hs5 := hb5.size; have hh5 := (hb5.block g hgl).trans HF.out.1; have hc5 := cell_of_one hh5; have hz5 := free_of_one hh5; have hx5 := (hg5.block w.heap.size hlx (by simp [Value.ownBlock])).trans HXd.out; obtain ⟨t0, t1, t2, t3, t4, t5, t6, t7⟩ := Bx8.cells (show Bx8 w5 w.heap.size ⟨f0, f1, f2, ⟨r0, r1, r2, r3, r4⟩⟩ from hx5))
            | (refine Kd.R_append_rows_step (P := Try.prog) k8 (w0 := w) (W := w4.drew.alloc (.cells #[.int .i64 f0, .int .i64 f1, .int .i64 f2, .int .i64 r0, .int .i64 r1, .int .u64 r2, .int .u64 r3, .int .i64 r4] 31)) (Rr := k8.K _) w.heap.size (by rfl) (.const (.slice none 0 0)) (.tmp 54) 32 31 zW 64 (by rfl) Try.underlying32 infoW rfl (by decide) (by decide) (.slice none 0 0) [] l A l.length c (fun _ => True) (fun _ => False) (by rfl) (by rfl) (R8.nil _ _) HCa.out (fun _ _ h => k8_KM h) (fun _ h => h.elim) (fun _ _ => trivial) HBa.out hsa hl0 ?_; intro v1 w5 hr5 hb5 hg5 hat5; obtain ⟨A9, c9, rfl, _, _⟩ := Kd.R_reads hr5; have hs5 := hb5.size; have hh5 := (hb5.block g hgl).trans HF.out.1; have hc5 := cell_of_one hh5; have hz5 := free_of_one hh5; have hx5 := one_C (show Bx8 w5 w4.heap.size ⟨f0, f1, f2, ⟨r0, r1, r2, r3, r4⟩⟩ from (hg5.block w4.heap.size hla (by simp [Value.ownBlock])).trans HXa.out))
            | (refine Kd.R_append_step (P := Try.prog) k8 (w0 := w) (W := w5) w.heap.size (by rfl) (.tmp 55) (.tmp 57) 32 31 zW 64 (by rfl) Try.underlying32 infoW rfl (by decide) (by decide) (.slice A9 ([] ++ l).length c9) ([] ++ l) ⟨f0, f1, f2, ⟨r0, r1, r2, r3, r4⟩⟩ _ (fun _ => True) (fun _ => False) (by rfl) (by rfl) (k8_M _ _ _ _) (fun _ h => h.elim) (fun _ _ => trivial) hr5 hb5 hs5 hl1 ?_; intro v2 w6 hr6 hb6 hg6 hat6; obtain ⟨A8, c8, rfl, _, _⟩ := Kd.R_reads hr6; have hh6 := (hb6.block g hgl).trans HF.out.1; have hc6 := cell_of_one hh6; have hz6 := free_of_one hh6)
            | (refine Kd.R_append_rows_step (P := Try.prog) k8 (w0 := w) (W := w5) (Rr := k8.K _) w.heap.size (by rfl) (.tmp 55) (.tmp 57) 32 31 zW 64 (by rfl) Try.underlying32 infoW rfl (by decide) (by decide) (.slice A9 ([] ++ l).length c9) ([] ++ l) [⟨f0, f1, f2, ⟨r0, r1, r2, r3, r4⟩⟩] (some ⟨w4.heap.size, 0, none⟩) 1 1 (fun _ => True) (fun _ => False) (by rfl) (by rfl) hr5 hx5 (fun _ _ h => k8_KM h) (fun _ h => h.elim) (fun _ _ => trivial) hb5 hs5 hl2 ?_; intro v2 w6 hr6 hb6 hg6 hat6; obtain ⟨A8, c8, rfl, _, _⟩ := Kd.R_reads hr6; have hh6 := (hb6.block g hgl).trans HF.out.1; have hc6 := cell_of_one hh6; have hz6 := free_of_one hh6))
          all_goals
            simp only [List.nil_append, List.length_append, List.length_cons, List.length_nil, Nat.zero_add] at hr6
            have hw6 : Hid (Rf (w6.setCell ⟨g, 0, none⟩ (.slice A8 (l.length + 1) c8)) B g (.slice A8 (l.length + 1) c8) (l ++ [⟨f0, f1, f2, ⟨r0, r1, r2, r3, r4⟩⟩])) := Lib.hid ⟨one_setCell hh6, R8.move (R8.lower hr6 (by omega)) fun k hk => Below.heap_setCell w6 _ _ k (fun e => by have := (R8.lt hr6 k hk).1; simp only at e; omega), hBg, by rw [List.length_append]; simp; omega⟩
            have HK6 := Lib.hid ((Kp.of_below hb6 g (.slice none 0 0)).trans (Kp.of_grown_g (grown_set w6 g 0 (.slice A8 (l.length + 1) c8)) (.slice none 0 0)) (.inl rfl))
            have HAT : Hid ((Value.slice A8 (l.length + 1) c8).ownBlock = (Value.slice A l.length c).ownBlock ∨ ∃ b, (Value.slice A8 (l.length + 1) c8).ownBlock = some b ∧ w.heap.size ≤ b) := Lib.hid (by
              obtain ⟨bb, cap, e, h1, _⟩ := R8.form hr6 (by rw [List.length_append]; simp)
              injection e with e1 _ e3
              exact .inr ⟨bb, by rw [e1]; rfl, h1⟩)
            clear hr6 hb6 hg6 hat6 hh6
            go_wp2
            go_ret
            refine ⟨by rw [HE.out]; rfl, _, ?_, HK6.out, HAT.out⟩
            rw [HL.out]
            exact hw6.out
    · rw [e1, if_neg (by decide)] at HN
      have hbw3' := hbw3.setCell (p := ⟨w.heap.size, 1, none⟩) (Nat.le_refl _) (.int .i64 0)
      have HF3 := Lib.hid (HF.out.later hbw3')
      have HBW := Lib.hid hbw3'
      have HXX := Lib.hid (HX3.out.setObj 0)
      have HLT := Lib.hid (show w.heap.size < (w3.setCell ⟨w.heap.size, 1, none⟩ (.int .i64 0)).heap.size by simp; omega)
      clear hbw3 hbw3' HX3
      go_wp2_with (refine store_named (P := Try.prog) rfl 28 (.tmp 12) (.tmp 11) rfl w.heap.size 3 #[.int .i64 r0, .int .i64 r1, .int .u64 r2, .int .u64 r3, .int .i64 r4] rfl rfl HTH.out infoV (one5 _ _ _ _ _) HW3.out ?_)
      refine (rat_any B g v l f0 0 f2 _ HF3.out).mono ?_
      rintro e w4 ⟨rfl, hb4⟩
      have hbw4 := HBW.out.trans (hb4.mono HBW.out.size)
      have hx4 := HXX.out.below hb4 HLT.out
      have hf4 := HF.out.later hbw4
      have hc4 := hf4.cell
      have hz4 := hf4.free
      have hgl4 := hf4.lt
      have hbs4 := hbw4.size
      have HF4 := Lib.hid hf4
      have HBW4 := Lib.hid hbw4
      have HMN : Hid (mN ⟨f0, f1, f2, ⟨f3, f4, f5, f6, f7⟩⟩ = matchP f0 0 f2) := Lib.hid (by funext y; unfold mN; rw [HN.out])
      rw [HMN.out] at HE HL
      rw [HN.out] at HL
      obtain ⟨q0, q1, q2, q3, q4, q5, q6, q7⟩ := hx4.cells
      have HX4 := Lib.hid hx4
      have HIX : Hid (∀ h : l.findIdx (matchP f0 0 f2) < l.length, matchP f0 0 f2 (l.getD (l.findIdx (matchP f0 0 f2)) z8) = true) := Lib.hid (fun h => by rw [getD_at h]; exact List.findIdx_getElem (w := h))
      obtain ⟨i, hi⟩ : ∃ i, l.findIdx (matchP f0 0 f2) = i := ⟨_, rfl⟩
      have HFI := Lib.hid (show fi f0 0 f2 l = if i < l.length then (i : Int) else -1 by unfold fi; rw [hi])
      rw [HFI.out]
      rw [hi] at HE HL HIX
      clear hi hb4 hbw4 hx4 hf4 p0 p1 p2 p3 p4 p5 p6 p7 z1 HBW HXX HLT HFI HMN
      by_cases hil : i < l.length
      · rw [if_pos hil] at HE HL ⊢
        have HPL := Lib.hid (same_place (HIX.out hil) (HNO.out _ (mem_getD hil)) (fun _ => rfl) ⟨r0, r1, r2, r3, r4⟩)
        clear HIX HNO
        obtain ⟨A, c, rfl, hlc, hC⟩ := HF4.out.2.1.reads
        have HC := Lib.hid hC
        clear hC
        have HR0 := Lib.hid (R8.nil w4 w.heap.size)
        go_wp2_with (at_builtin; refine Kd.R_append_rows (P := Try.prog) k8 (w0 := w) (W := w4) (Rr := k8.K _) w.heap.size rfl (.const (.slice none 0 0)) (.tmp 31) 32 31 zW 64 rfl Try.underlying32 infoW rfl (by decide) (by decide) _ [] l A l.length c (fun _ => True) (fun _ => False) rfl rfl HR0.out HC.out (fun _ _ h => k8_KM h) (fun _ h => h.elim) (fun _ _ => trivial) HBW4.out hbs4 ?c1 ?_)
        case c1 => first | omega | (simp; omega)
        intro v3 w5 hr3 hb3 hg3 _
        have hr3 : R8 w5 w.heap.size v3 l := hr3
        obtain ⟨bb, cap, rfl, hbb, hbl⟩ := R8.form hr3 (by omega)
        have hh5 := (hg3.block g hgl4 (by simp [Value.ownBlock])).trans HF4.out.1
        have hc5 := cell_of_one hh5
        have hz5 := free_of_one hh5
        have hx5 := (hg3.block w.heap.size (Array.getElem?_eq_some_iff.1 HX4.out).1 (by simp [Value.ownBlock])).trans HX4.out
        have h6g : ((w5.setCell ⟨g, 0, none⟩ (.slice (some ⟨bb, 0, none⟩) l.length cap)).heap[g]? : Option Obj) = some (.cells #[(.slice (some ⟨bb, 0, none⟩) l.length cap)] 49 (0, 0)) := one_setCell hh5
        have h6x : (w5.setCell ⟨g, 0, none⟩ (.slice (some ⟨bb, 0, none⟩) l.length cap)).heap[w.heap.size]? = w5.heap[w.heap.size]? := Below.heap_setCell w5 _ _ _ (fun e => by simp only at e; omega)
        have h6b : (w5.setCell ⟨g, 0, none⟩ (.slice (some ⟨bb, 0, none⟩) l.length cap)).heap[bb]? = w5.heap[bb]? := Below.heap_setCell w5 _ _ _ (fun e => by simp only at e; omega)
        have HG6 := Lib.hid (grown_set w5 g 0 (.slice (some ⟨bb, 0, none⟩) l.length cap))
        obtain ⟨w6, hw6⟩ : ∃ w6, w5.setCell ⟨g, 0, none⟩ (.slice (some ⟨bb, 0, none⟩) l.length cap) = w6 := ⟨_, rfl⟩
        rw [hw6] at h6g h6x h6b HG6
        have HW6 := Lib.hid hw6
        have hc6 := cell_of_one h6g
        obtain ⟨p0, p1, p2, p3, p4, p5, p6, p7⟩ := Bx8.cells (show Bx8 w6 w.heap.size _ from h6x.trans hx5)
        have hr6 : R8 w6.drew w.heap.size (.slice (some ⟨bb, 0, none⟩) l.length cap) l := R8.move hr3 fun k hk => by
          simp only [Value.ownBlock, Option.some.injEq] at hk
          subst hk
          exact h6b
        have HTB := Lib.hid (R8.thereV hr6 i hil)
        have hs := R8.setV hr6 i hil ⟨r0, r1, r2, r3, r4⟩ _ HPL.out
        obtain ⟨w7, hw7⟩ : ∃ w7, w6.drew.setCells bb (i * 8 + 3) (V5.cs ⟨r0, r1, r2, r3, r4⟩) = w7 := ⟨_, rfl⟩
        rw [hw7] at hs
        have HW7 := Lib.hid hw7
        have h6 : w6.drew.heap[g]? = some (.cells #[(.slice (some ⟨bb, 0, none⟩) l.length cap)] 49 (0, 0)) := h6g
        have HB7 : Hid (Rf w7 B g (.slice (some ⟨bb, 0, none⟩) l.length cap) (l.set i ⟨f0, 0, f2, ⟨r0, r1, r2, r3, r4⟩⟩)) := Lib.hid ⟨(hs.2.block g (Array.getElem?_eq_some_iff.1 h6).1 (fun e => by injection e with e; omega)).trans h6, hs.1.lower (by omega), hBg, by rw [List.length_set]; exact h64⟩
        have HK7 : Hid (Kp w w7 g (.slice none 0 0)) := Lib.hid ((((Kp.of_below hb3 g (.slice none 0 0)).trans (Kp.of_grown_g HG6.out (.slice none 0 0)) (.inl rfl)).trans (Kp.of_below (Below.refl _ _).drew g (.slice none 0 0)) (.inl rfl)).trans (Kp.of_grown_v (v := .slice (some ⟨bb, 0, none⟩) l.length cap) (by simpa [Value.ownBlock] using hs.2) g) (.inr ⟨bb, rfl, hbb⟩))
        clear hs hw7 h6 hr6 hr3 hb3 hg3 hh5 hx5 hc4 hz4 HX4 q0 q1 q2 q3 q4 q5 q6 q7 h6g h6x h6b hw6
        go_wp2
        rw [HW6.out]
        go_still_tail 9, (by kernel_rfl)
        refine store_named (P := Try.prog) rfl 28 (.tmp 43) (.tmp 41) rfl bb (i * 8 + 3) #[.int .i64 r0, .int .i64 r1, .int .u64 r2, .int .u64 r3, .int .i64 r4] rfl rfl HTB.out infoV (one5 _ _ _ _ _) HW7.out ?_
        go_wp2
        go_ret
        refine ⟨by rw [HE.out]; rfl, .slice (some ⟨bb, 0, none⟩) l.length cap, ?_, HK7.out, .inr ⟨bb, rfl, hbb⟩⟩
        rw [HL.out]
        exact HB7.out
      · rw [if_neg hil] at HE HL ⊢
        clear HIX HNO
        obtain ⟨A, c, rfl, hlc, hC⟩ := HF4.out.2.1.reads
        have HC := Lib.hid hC
        clear hC
        by_cases h64' : l.length = 64
        · rw [if_pos h64'] at HE HL
          have e64 : (64 : Int) ≤ (l.length : Int) := by omega
          go_wp2
          go_ret
          refine ⟨by rw [HE.out]; rfl, _, ?_, Kp.of_below HBW4.out _ _, .inl rfl⟩
          rw [HL.out]
          exact HF4.out
        · rw [if_neg h64'] at HE HL
          have e64 : (l.length : Int) < 64 := by omega
          have hd := HBW4.out.drew
          have HBd := Lib.hid hd
          have HBa := Lib.hid (hd.alloc hd.size (.cells #[.int .i64 f0, .int .i64 0, .int .i64 f2, .int .i64 r0, .int .i64 r1, .int .u64 r2, .int .u64 r3, .int .i64 r4] 31))
          have hsd := hd.size
          have hsa := HBa.out.size
          have HCd : Hid (Kd.C k8 w4.drew A l.length l) := Lib.hid (Kd.C_below HC.out (Below.refl w4.heap.size w4).drew)
          have HCa := Lib.hid (Kd.C_below HCd.out ((Below.refl w4.drew.heap.size w4.drew).alloc (Nat.le_refl _) (.cells #[.int .i64 f0, .int .i64 0, .int .i64 f2, .int .i64 r0, .int .i64 r1, .int .u64 r2, .int .u64 r3, .int .i64 r4] 31)))
          have HXd : Hid (Bx8 w4.drew w.heap.size ⟨f0, 0, f2, ⟨r0, r1, r2, r3, r4⟩⟩) := Lib.hid HX4.out
          have HXa : Hid (Bx8 (w4.drew.alloc (.cells #[.int .i64 f0, .int .i64 0, .int .i64 f2, .int .i64 r0, .int .i64 r1, .int .u64 r2, .int .u64 r3, .int .i64 r4] 31)) w4.heap.size ⟨f0, 0, f2, ⟨r0, r1, r2, r3, r4⟩⟩) := Lib.hid (heap_alloc_new w4.drew _)
          have hlx : w.heap.size < w4.drew.heap.size := (Array.getElem?_eq_some_iff.1 HX4.out).1
          have hla : w4.heap.size < (w4.drew.alloc (.cells #[.int .i64 f0, .int .i64 0, .int .i64 f2, .int .i64 r0, .int .i64 r1, .int .u64 r2, .int .u64 r3, .int .i64 r4] 31)).heap.size := by rw [size_al]; exact Nat.lt_succ_self _
          have hlx4 : w.heap.size < w4.heap.size := hlx
          have hl0 : (([] : List W8).length + l.length) * 64 ≤ 140737488355328 := by simp; omega
          have hl1 : ((([] : List W8) ++ l).length + 1) * 64 ≤ 140737488355328 := by simp; omega
          have hl2 : ((([] : List W8) ++ l).length + 1) * 64 ≤ 140737488355328 := hl1
          clear hd
          go_wp2
          go_region_law (first
            | (refine Kd.R_append_rows_step (P := Try.prog) k8 (w0 := w) (W := w4.drew) (Rr := k8.K _) w.heap.size (by rfl) (.const (.slice none 0 0)) (.tmp 54) 32 31 zW 64 (by rfl) Try.underlying32 infoW rfl (by decide) (by decide) (.slice none 0 0) [] l A l.length c (fun _ => True) (fun _ => False) (by rfl) (by rfl) (R8.nil _ _) HCd.out (fun _ _ h => k8_KM h) (fun _ h => h.elim) (fun _ _ => trivial) HBd.out hsd hl0 ?_; intro v1 w5 hr5 hb5 hg5 hat5; obtain ⟨A9, c9, rfl, _, _⟩ := Kd.R_reads hr5; have hs5 := hb5.size; have hh5 := (hb5.block g hgl).trans HF.out.1; have hc5 := cell_of_one hh5; have hz5 := free_of_one hh5; have hx5 := (hg5.block w.heap.size hlx (by simp [Value.ownBlock])).trans HXd.out; obtain ⟨t0, t1, t2, t3, t4, t5, t6, t7⟩ := Bx8.cells (show Bx8 w5 w.heap.size ⟨f0, 0, f2, ⟨r0, r1, r2, r3, r4⟩⟩ from hx5))
            | (refine Kd.R_append_rows_step (P := Try.prog) k8 (w0 := w) (W := w4.drew.alloc (.cells #[.int .i64 f0, .int .i64 0, .int .i64 f2, .int .i64 r0, .int .i64 r1, .int .u64 r2, .int .u64 r3, .int .i64 r4] 31)) (Rr := k8.K _) w.heap.size (by rfl) (.const (.slice none 0 0)) (.tmp 54) 32 31 zW 64 (by rfl) Try.underlying32 infoW rfl (by decide) (by decide) (.slice none 0 0) [] l A l.length c (fun _ => True) (fun _ => False) (by rfl) (by rfl) (R8.nil _ _) HCa.out (fun _ _ h => k8_KM h) (fun _ h => h.elim) (fun _ _ => trivial) HBa.out hsa hl0 ?_; intro v1 w5 hr5 hb5 hg5 hat5; obtain ⟨A9, c9, rfl, _, _⟩ := Kd.R_reads hr5; have hs5 := hb5.size; have hh5 := (hb5.block g hgl).trans HF.out.1; have hc5 := cell_of_one hh5; have hz5 := free_of_one hh5; have hx5 := one_C (show Bx8 w5 w4.heap.size ⟨f0, 0, f2, ⟨r0, r1, r2, r3, r4⟩⟩ from (hg5.block w4.heap.size hla (by simp [Value.ownBlock])).trans HXa.out))
            | (refine Kd.R_append_step (P := Try.prog) k8 (w0 := w) (W := w5) w.heap.size (by rfl) (.tmp 55) (.tmp 57) 32 31 zW 64 (by rfl) Try.underlying32 infoW rfl (by decide) (by decide) (.slice A9 ([] ++ l).length c9) ([] ++ l) ⟨f0, 0, f2, ⟨r0, r1, r2, r3, r4⟩⟩ _ (fun _ => True) (fun _ => False) (by rfl) (by rfl) (k8_M _ _ _ _) (fun _ h => h.elim) (fun _ _ => trivial) hr5 hb5 hs5 hl1 ?_; intro v2 w6 hr6 hb6 hg6 hat6; obtain ⟨A8, c8, rfl, _, _⟩ := Kd.R_reads hr6; have hh6 := (hb6.block g hgl).trans HF.out.1; have hc6 := cell_of_one hh6; have hz6 := free_of_one hh6)
            | (refine Kd.R_append_rows_step (P := Try.prog) k8 (w0 := w) (W := w5) (Rr := k8.K _) w.heap.size (by rfl) (.tmp 55) (.tmp 57) 32 31 zW 64 (by rfl) Try.underlying32 infoW rfl (by decide) (by decide) (.slice A9 ([] ++ l).length c9) ([] ++ l) [⟨f0, 0, f2, ⟨r0, r1, r2, r3, r4⟩⟩] (some ⟨w4.heap.size, 0, none⟩) 1 1 (fun _ => True) (fun _ => False) (by rfl) (by rfl) hr5 hx5 (fun _ _ h => k8_KM h) (fun _ h => h.elim) (fun _ _ => trivial) hb5 hs5 hl2 ?_; intro v2 w6 hr6 hb6 hg6 hat6; obtain ⟨A8, c8, rfl, _, _⟩ := Kd.R_reads hr6; have hh6 := (hb6.block g hgl).trans HF.out.1; have hc6 := cell_of_one hh6; have hz6 := free_of_one hh6))
          all_goals
            simp only [List.nil_append, List.length_append, List.length_cons, List.length_nil, Nat.zero_add] at hr6
            have hw6 : Hid (Rf (w6.setCell ⟨g, 0, none⟩ (.slice A8 (l.length + 1) c8)) B g (.slice A8 (l.length + 1) c8) (l ++ [⟨f0, 0, f2, ⟨r0, r1, r2, r3, r4⟩⟩])) := Lib.hid ⟨one_setCell hh6, R8.move (R8.lower hr6 (by omega)) fun k hk => Below.heap_setCell w6 _ _ k (fun e => by have := (R8.lt hr6 k hk).1; simp only at e; omega), hBg, by rw [List.length_append]; simp; omega⟩
            have HK6 := Lib.hid ((Kp.of_below hb6 g (.slice none 0 0)).trans (Kp.of_grown_g (grown_set w6 g 0 (.slice A8 (l.length + 1) c8)) (.slice none 0 0)) (.inl rfl))
            have HAT : Hid ((Value.slice A8 (l.length + 1) c8).ownBlock = (Value.slice A l.length c).ownBlock ∨ ∃ b, (Value.slice A8 (l.length + 1) c8).ownBlock = some b ∧ w.heap.size ≤ b) := Lib.hid (by
              obtain ⟨bb, cap, e, h1, _⟩ := R8.form hr6 (by rw [List.length_append]; simp)
              injection e with e1 _ e3
              exact .inr ⟨bb, by rw [e1]; rfl, h1⟩)
            clear hr6 hb6 hg6 hat6 hh6
            go_wp2
            go_ret
            refine ⟨by rw [HE.out]; rfl, _, ?_, HK6.out, HAT.out⟩
            rw [HL.out]
            exact hw6.out
end Go.Proofs.Ytmdjbldmfmoaaaa.Bv
