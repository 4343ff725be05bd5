/-
  BufferPlays: any writes: the buffer answers as the reference's.
-/
import Derived.Test.YtmdjbldmfmoaaaaRows
import Derived.WalkKit
import Derived.WalkSpells
import Derived.WalkLawsBesides
import Derived.WalkMore
import Derived.ProofKit
import Derived.OpenShut
import Derived.ShutString
import Derived.ChangeOld
import Derived.Below
import Derived.SizedLaws
import Derived.Lib.Hide
import Derived.Test.YtmdjbldmfmoaaaaOpen
import Derived.Test.YtmdjbldmfmoaaaaBv
import Derived.Deep.DeepMust
namespace Go.Proofs.Ytmdjbldmfmoaaaa.bufferPlays
open Go.RowKit Go.ChangeShapes Go.WideShapes Go.ChangeAt Go.Proofs.YtmdjbldmfmoaaaaW.PrintWords
set_option linter.unusedVariables false
open Ba Bu Bw Bl Bn Bs Br Bv
/-- Both buffers, their rows apart. -/
structure Two (w wr : World) (v vr : Value) (l lr : List W8) : Prop where
  f : Bf wr w.heap.size w.heap.size v l
  r : Rf wr w.heap.size (w.heap.size + 1) vr lr
  ne : ∀ k, vr.ownBlock = some k → v.ownBlock ≠ some k
  nm : Nm l
  b : Below w.heap.size w wr
theorem row_ne {W : World} {B g e : Nat} {v : Value} {l : List W8} {cs : Array Value} (hr : R8 W B v l) (hf : W.heap[g]? = some (.cells cs e (0, 0))) (he : e ≠ 31) : v.ownBlock ≠ some g := by
  intro h
  obtain ⟨inner, ho⟩ := Kd.R_own hr
  obtain ⟨cs', hc⟩ := own_typed ho g h
  rw [hc] at hf
  injection hf with h1
  injection h1 with _ h2
  exact he h2.symm
section
variable {w wr w' : World} {v vr v' : Value} {l lr l' : List W8}
theorem Two.later (h : Two w wr v vr l lr) (hb : Below wr.heap.size wr w') : Two w w' v vr l lr :=
  ⟨h.f.later hb, h.r.later hb, h.ne, h.nm, h.b.trans (hb.mono h.b.size)⟩
theorem Two.put (h : Two w wr v vr l lr) (hf : Bf w' w.heap.size w.heap.size v' l') (hk : Kp wr w' w.heap.size v) (hat : v'.ownBlock = v.ownBlock ∨ ∃ b, v'.ownBlock = some b ∧ wr.heap.size ≤ b) (hn : Nm l') : Two w w' v' vr l' lr := by
  refine ⟨hf, ⟨(hk.block _ h.r.lt (by omega) (row_ne h.f.2.1 h.r.1 (by decide))).trans h.r.1, R8.move h.r.2.1 fun k hk' => hk.block k (h.r.2.1.lt k hk').2 (fun e => row_ne h.r.2.1 h.f.1 (by decide) (by rw [hk', e])) (h.ne k hk'), h.r.2.2⟩, fun k hk' e => ?_, hn, h.b.trans (hk.below h.f)⟩
  rcases hat with hat | ⟨b, hat, hle⟩
  · exact h.ne k hk' (by rw [← hat]; exact e)
  · rw [hat] at e
    injection e with e
    have := (h.r.2.1.lt k hk').2
    omega
theorem Two.rput (h : Two w wr v vr l lr) {vr' : Value} {lr' : List W8} (hr : Rf w' w.heap.size (w.heap.size + 1) vr' lr') (hk : Kp wr w' (w.heap.size + 1) (.slice none 0 0)) (hat : vr'.ownBlock = vr.ownBlock ∨ ∃ b, vr'.ownBlock = some b ∧ wr.heap.size ≤ b) : Two w w' v vr' l lr' := by
  refine ⟨⟨(hk.block _ h.f.lt (by omega) (by simp [Value.ownBlock])).trans h.f.1, R8.move h.f.2.1 fun k hk' => hk.block k (h.f.2.1.lt k hk').2 (fun e => row_ne h.f.2.1 h.r.1 (by decide) (by rw [hk', e])) (by simp [Value.ownBlock]), h.f.2.2⟩, hr, fun k hk' e => ?_, h.nm, h.b.trans ⟨hk.os, hk.tape, hk.output, hk.size, fun k hk' => hk.block k (by have := h.b.size; omega) (by omega) (by simp [Value.ownBlock])⟩⟩
  rcases hat with hat | ⟨b, hat, hle⟩
  · exact h.ne k (by rw [← hat]; exact hk') e
  · rw [hat] at hk'
    injection hk' with hk'
    have := (h.f.2.1.lt k e).2
    omega
theorem Two.rclear (h : Two w wr v vr l lr) {lr' : List W8} (hr : Rf w' w.heap.size (w.heap.size + 1) (.slice none 0 0) lr') (hk : Kp wr w' (w.heap.size + 1) (.slice none 0 0)) : Two w w' v (.slice none 0 0) l lr' :=
  ⟨⟨(hk.block _ h.f.lt (by omega) (by simp [Value.ownBlock])).trans h.f.1, R8.move h.f.2.1 fun k hk' => hk.block k (h.f.2.1.lt k hk').2 (fun e => row_ne h.f.2.1 h.r.1 (by decide) (by rw [hk', e])) (by simp [Value.ownBlock]), h.f.2.2⟩, hr, fun k hk' e => by simp [Value.ownBlock] at hk', h.nm, h.b.trans ⟨hk.os, hk.tape, hk.output, hk.size, fun k hk' => hk.block k (by have := h.b.size; omega) (by omega) (by simp [Value.ownBlock])⟩⟩
theorem Two.clear (h : Two w wr v vr l lr) (hf : Bf w' w.heap.size w.heap.size (.slice none 0 0) []) (hk : Kp wr w' w.heap.size v) : Two w w' (.slice none 0 0) vr [] lr := by
  refine ⟨hf, ⟨(hk.block _ h.r.lt (by omega) (row_ne h.f.2.1 h.r.1 (by decide))).trans h.r.1, R8.move h.r.2.1 fun k hk' => hk.block k (h.r.2.1.lt k hk').2 (fun e => row_ne h.r.2.1 h.f.1 (by decide) (by rw [hk', e])) (h.ne k hk'), h.r.2.2⟩, fun k hk' e => by simp [Value.ownBlock] at e, nm_nil, h.b.trans (hk.below h.f)⟩
end
theorem two_new (w : World) : Two w ((w.alloc (.cells #[.slice none 0 0] 54)).alloc (.cells #[.slice none 0 0] 49)) (.slice none 0 0) (.slice none 0 0) [] [] := by
  have h0 := (Below.refl w.heap.size w).alloc (Nat.le_refl _) (.cells #[.slice none 0 0] 54)
  have h1 := (Below.refl _ (w.alloc (.cells #[.slice none 0 0] 54))).alloc (Nat.le_refl _) (.cells #[.slice none 0 0] 49)
  refine ⟨(bf_new w).later h1, ⟨?_, R8.nil _ _, by omega, by simp⟩, fun k hk => by simp [Value.ownBlock] at hk, nm_nil, h0.alloc h0.size _⟩
  have := heap_alloc_new (w.alloc (.cells #[.slice none 0 0] 54)) (.cells #[.slice none 0 0] 49)
  rw [size_al] at this
  exact this
theorem fv_kd {k o f : Int} {l : List W8} (h : Nm l) : 0 ≤ (fv k o f l).kd ∧ (fv k o f l).kd ≤ 3 := by
  unfold fv
  split
  · rename_i hi
    exact may_kd (h.1 _ (mem_getD hi)).1
  · exact ⟨by decide, by decide⟩
theorem At8.below {w w' : World} {p : Addr} {x : W8} (h : At8 w p x) (hb : Below w.heap.size w w') : At8 w' p x :=
  ⟨cell_old h.c0 hb.block, cell_old h.c1 hb.block, cell_old h.c2 hb.block, cell_old h.c3 hb.block, cell_old h.c4 hb.block, cell_old h.c5 hb.block, cell_old h.c6 hb.block, cell_old h.c7 hb.block⟩
set_option maxHeartbeats 16000000 in
set_option maxRecDepth 100000 in
theorem walk (w : World) (A0 : Option Addr) (c0 : Nat) (x0 : List Ba.W8) (hc0 : x0.length ≤ c0) (hr0 : Kd.C Ba.k8 w A0 x0.length x0) (ok0 : x0.length ≤ maxLen ∧ ∀ y ∈ x0, Ba.ok8 y) (a1 : Int) (w1 : (Lit.int .i64 a1).wf = true) (a2 : Int) (w2 : (Lit.int .i64 a2).wf = true) (a3 : Int) (w3 : (Lit.int .i64 a3).wf = true) (a4 : Int) (w4 : (Lit.int .i64 a4).wf = true) :
    Calls Try.prog 7 #[.slice A0 x0.length c0, .int .i64 a1, .int .i64 a2, .int .i64 a3, .int .i64 a4] w fun e w' => e = .returned (.bool true) ∧ Below w.heap.size w w' := by
  have HC := Lib.hid hr0
  have hlen0 : x0.length ≤ maxLen := ok0.1
  clear hr0 ok0
  have HA := Lib.hid (two_new w)
  have cne : ∀ z : Int, (z != z) = false := fun z => by rw [bne_eq_false_iff_eq]
  go_enter Try.func7, Try.ntmps7
  go_wp2_with fail
  refine (new_any _).mono ?_
  rintro e w1 ⟨rfl, rfl⟩
  go_wp2
  go_loopw [13] (fun i wr => ∃ (k : Nat) (v vr : Value) (l : List W8), k ≤ x0.length ∧ k ≤ 150 ∧ i = .int .i64 (k : Int) ∧ Two w wr v vr l l) (fun i _ => x0.length - (intOf i).toNat)
  case atStart => exact ⟨0, _, _, _, by omega, by omega, rfl, HA.out⟩
  case round =>
    obtain ⟨k, v, vr, l, hk, hk60, rfl, ha⟩ := hrel
    by_cases hgo : k < x0.length ∧ k < 150
    · obtain ⟨hlt, hl60⟩ := hgo
      obtain ⟨ad, rfl, hcw⟩ := at_W8 HC.out k hlt
      obtain ⟨x, hx⟩ : ∃ x, x0.getD k z8 = x := ⟨_, rfl⟩
      rw [hx] at hcw
      have HCW := Lib.hid hcw
      obtain ⟨q0, q1, q2, q3, q4, q5, q6, q7⟩ := At8.below HCW.out ha.b
      clear hx hcw
      obtain ⟨g0, g1, g2, ⟨g3, g4, g5, g6, g7⟩⟩ := x
      dsimp only at q0 q1 q2 q3 q4 q5 q6 q7
      have HA1 := Lib.hid (ha.later (Below.refl wr.heap.size wr).drew)
      have i0 : (0 : Int) ≤ (k : Int) := by omega
      have i1 : (k : Int) < (x0.length : Int) := by omega
      have i2 : (k : Int) < 150 := by omega
      clear ha
      go_wp2
      go_region_held3 (fun w' => w'.cell? (ad.add (k * 8)) = some (.int .i64 g0) ∧ w'.cell? ⟨(ad.add (k * 8)).block, (ad.add (k * 8)).off + 1, none⟩ = some (.int .i64 g1) ∧ w'.cell? ⟨(ad.add (k * 8)).block, (ad.add (k * 8)).off + 2, none⟩ = some (.int .i64 g2) ∧ w'.cell? ⟨(ad.add (k * 8)).block, (ad.add (k * 8)).off + 3, none⟩ = some (.int .i64 g3) ∧ w'.cell? ⟨(ad.add (k * 8)).block, (ad.add (k * 8)).off + 4, none⟩ = some (.int .i64 g4) ∧ w'.cell? ⟨(ad.add (k * 8)).block, (ad.add (k * 8)).off + 5, none⟩ = some (.int .u64 g5) ∧ w'.cell? ⟨(ad.add (k * 8)).block, (ad.add (k * 8)).off + 6, none⟩ = some (.int .u64 g6) ∧ w'.cell? ⟨(ad.add (k * 8)).block, (ad.add (k * 8)).off + 7, none⟩ = some (.int .i64 g7))
        (first | go_keep | (refine ⟨?_, ?_, ?_, ?_, ?_, ?_, ?_, ?_⟩ <;> assumption))
        (first
          | (go_at_call 10; go_must (refine (put_any w.heap.size w.heap.size v l ⟨g0, g1, g2, ⟨g3, g4, g5, g6, g7⟩⟩ _ HA1.out.f).mono ?_; rintro e w2 ⟨rfl, v2, hf2, hk2, hat2⟩; have HA2 := Lib.hid (HA1.out.put hf2 hk2 hat2 (nm_put HA1.out.nm _)); obtain ⟨q0, q1, q2, q3, q4, q5, q6, q7⟩ := At8.below HCW.out HA2.out.b; dsimp only at q0 q1 q2 q3 q4 q5 q6 q7))
          | (go_at_call 21; go_must (refine (rput_any w.heap.size (w.heap.size + 1) vr l ⟨g0, g1, g2, ⟨g3, g4, g5, g6, g7⟩⟩ _ HA2.out.r (fun y hy => (HA1.out.nm.1 y hy).2)).mono ?_; rintro e w3 ⟨rfl, v3, hf3, hk3, hat3⟩; have HA3 := Lib.hid (HA2.out.rput hf3 hk3 hat3); obtain ⟨q0, q1, q2, q3, q4, q5, q6, q7⟩ := At8.below HCW.out HA3.out.b; dsimp only at q0 q1 q2 q3 q4 q5 q6 q7)))
      clear hf2 hk2 hat2 hf3 hk3 hat3 HA1 HA2
      clear q0 q1 q2 q3 q4 q5 q6 q7
      cases e4 : ((k : Int) == a4)
      · go_wp2
        go_roundw
        case rel => exact ⟨k + 1, v2, v3, _, by omega, by omega, by go_num, HA3.out⟩
        case measure => simp [intOf]; omega
      · go_wp2_with fail
        refine (clear_any w.heap.size w.heap.size v2 _ _ HA3.out.f).mono ?_
        rintro e w4 ⟨rfl, hf4, hk4⟩
        have ha4 := HA3.out.clear hf4 hk4
        have hc4 := ha4.r.cell
        have hz4 := ha4.r.free
        have HA5 : Hid (Two w (w4.setCell ⟨w.heap.size + 1, 0, none⟩ (.slice none 0 0)) (.slice none 0 0) (.slice none 0 0) [] []) := Lib.hid (ha4.rclear ⟨one_setCell ha4.r.1, R8.nil _ _, by omega, by simp⟩ (Kp.of_grown_g (grown_set w4 (w.heap.size + 1) 0 (.slice none 0 0)) _))
        clear ha4 hf4 hk4 HA3
        go_wp2
        go_roundw
        case rel => exact ⟨k + 1, _, _, _, by omega, by omega, by go_num, HA5.out⟩
        case measure => simp [intOf]; omega
    · have HKD := Lib.hid (fun x (hx : x ∈ l) => may_kd (ha.nm.1 x hx).1)
      have HKV := Lib.hid (fv_kd (k := a1) (o := a2) (f := a3) ha.nm)
      have h64 := ha.f.2.2.2
      have hrl : (refsAll l).length ≤ 1000 := by have := refsAll_le l; omega
      have HA1 := Lib.hid ha
      clear ha
      have hk' : k = x0.length ∨ (k < x0.length ∧ k = 150) := by omega
      obtain ⟨wq, rfl⟩ : ∃ wq : World, wq = wr := ⟨_, rfl⟩
      rcases hk' with rfl | ⟨hkl, rfl⟩
      all_goals
        go_wp2_with fail
        refine (find2_any w.heap.size w.heap.size v l a1 a2 a3 _ HA1.out.f).mono ?_
        rintro e w4 ⟨rfl, hb4⟩
        have HA4 := Lib.hid (HA1.out.later hb4)
        clear hb4 HA1
        obtain ⟨n, hn⟩ : ∃ n, fv a1 a2 a3 l = n := ⟨_, rfl⟩
        obtain ⟨bb, hbb⟩ : ∃ bb, fb a1 a2 a3 l = bb := ⟨_, rfl⟩
        rw [hn, hbb]
        have HSV := Lib.hid (sv_refl HKV.out.1 HKV.out.2)
        rw [hn] at HSV
        have HN := Lib.hid hn
        have HBB := Lib.hid hbb
        clear hn hbb
        obtain ⟨n3, n4, n5, n6, n7⟩ := n
        have HX4 : Hid (Bx5 (w4.alloc (.cells #[.int .i64 n3, .int .i64 n4, .int .u64 n5, .int .u64 n6, .int .i64 n7] 28)) w4.heap.size ⟨n3, n4, n5, n6, n7⟩) := Lib.hid (heap_alloc_new w4 _)
        have hl4 := (Below.refl w4.heap.size w4).alloc (Nat.le_refl _) (.cells #[.int .i64 n3, .int .i64 n4, .int .u64 n5, .int .u64 n6, .int .i64 n7] 28)
        have HA4' := Lib.hid (HA4.out.later hl4)
        unfold agg5
        dsimp only
        go_wp2_with fail
        refine (rfind_any w.heap.size (w.heap.size + 1) vr l a1 a2 a3 _ HA4'.out.r).mono ?_
        rintro e w5 ⟨rfl, hb5⟩
        rw [HN.out, HBB.out]
        unfold agg5
        dsimp only
        have hs5 := hb5.size
        rw [size_al] at hs5
        have hlt45 : w4.heap.size < w5.heap.size := by omega
        have hx5 := HX4.out.below hb5 (by rw [size_al]; omega)
        have HA5 := Lib.hid (HA4'.out.later hb5)
        have hl5 := (Below.refl w5.heap.size w5).alloc (Nat.le_refl _) (.cells #[.int .i64 n3, .int .i64 n4, .int .u64 n5, .int .u64 n6, .int .i64 n7] 28)
        have HA6 := Lib.hid ((HA5.out.later hl5).later (Below.refl _ _).drew)
        have HB6 : Hid (Bx5 (w5.alloc (.cells #[.int .i64 n3, .int .i64 n4, .int .u64 n5, .int .u64 n6, .int .i64 n7] 28)).drew w4.heap.size ⟨n3, n4, n5, n6, n7⟩ ∧ Bx5 (w5.alloc (.cells #[.int .i64 n3, .int .i64 n4, .int .u64 n5, .int .u64 n6, .int .i64 n7] 28)).drew w5.heap.size ⟨n3, n4, n5, n6, n7⟩) := Lib.hid ⟨hx5.below hl5.drew hlt45, heap_alloc_new w5 _⟩
        obtain ⟨s0, s1, s2, s3, s4⟩ := hx5.cells
        obtain ⟨Ar, cr, rfl, _, _⟩ := HA5.out.r.2.1.reads
        have hrc := HA5.out.r.cell
        have hrlt := HA5.out.r.lt
        have ebb : (bb == bb) = true := by cases bb <;> rfl
        have ell : ((l.length : Int) == (l.length : Int)) = true := by simp
        clear hb5 hl4 hl5 HA4 HA4' HX4 hs5 hx5
        go_wp2
        go_region_held3 (fun w' => w'.cell? ⟨w4.heap.size, 0, none⟩ = some (.int .i64 n3) ∧ w'.cell? ⟨w4.heap.size, 1, none⟩ = some (.int .i64 n4) ∧ w'.cell? ⟨w4.heap.size, 2, none⟩ = some (.int .u64 n5) ∧ w'.cell? ⟨w4.heap.size, 3, none⟩ = some (.int .u64 n6) ∧ w'.cell? ⟨w4.heap.size, 4, none⟩ = some (.int .i64 n7) ∧ w'.cell? ⟨w5.heap.size, 0, none⟩ = some (.int .i64 n3) ∧ w'.cell? ⟨w5.heap.size, 1, none⟩ = some (.int .i64 n4) ∧ w'.cell? ⟨w5.heap.size, 2, none⟩ = some (.int .u64 n5) ∧ w'.cell? ⟨w5.heap.size, 3, none⟩ = some (.int .u64 n6) ∧ w'.cell? ⟨w5.heap.size, 4, none⟩ = some (.int .i64 n7) ∧ w'.cell? ⟨w.heap.size + 1, 0, none⟩ = some (.slice Ar l.length cr))
          (first | go_keep | (refine ⟨?_, ?_, ?_, ?_, ?_, ?_, ?_, ?_, ?_, ?_, ?_⟩ <;> assumption))
          (first
            | (go_at_call 20; go_must (refine (sv_any ⟨n3, n4, n5, n6, n7⟩ ⟨n3, n4, n5, n6, n7⟩ _).mono ?_; rintro e w7 ⟨rfl, hb7⟩; rw [HSV.out]; have HA7 := Lib.hid (HA6.out.later hb7); have HB7 := Lib.hid (And.intro (Bx5.below HB6.out.1 hb7 (Array.getElem?_eq_some_iff.1 HB6.out.1).1) (Bx5.below HB6.out.2 hb7 (Array.getElem?_eq_some_iff.1 HB6.out.2).1)); obtain ⟨s0, s1, s2, s3, s4⟩ := Bx5.cells (HB7.out.1); obtain ⟨t0, t1, t2, t3, t4⟩ := Bx5.cells (HB7.out.2); have hrc := HA7.out.r.cell))
            | (go_at_call 13; go_must (refine (len_any w.heap.size w.heap.size v l _ HA7.out.f).mono ?_; rintro e w8 ⟨rfl, hb8⟩; have HA8 := Lib.hid (HA7.out.later hb8); have HB8 := Lib.hid (And.intro (Bx5.below HB7.out.1 hb8 (Array.getElem?_eq_some_iff.1 HB7.out.1).1) (Bx5.below HB7.out.2 hb8 (Array.getElem?_eq_some_iff.1 HB7.out.2).1)); obtain ⟨s0, s1, s2, s3, s4⟩ := Bx5.cells (HB8.out.1); obtain ⟨t0, t1, t2, t3, t4⟩ := Bx5.cells (HB8.out.2); have hrc := HA8.out.r.cell))
            | (go_at_call 12; go_must (refine (all_any w.heap.size w.heap.size v l _ HA8.out.f).mono ?_; rintro e w9 ⟨va, rfl, hr9, hb9⟩; obtain ⟨Aa, ca, rfl, _, hC9⟩ := hr9.reads; have HC9 := Lib.hid hC9; have HA9 := Lib.hid (HA8.out.later hb9); have HB9 := Lib.hid (And.intro (Bx5.below HB8.out.1 hb9 (Array.getElem?_eq_some_iff.1 HB8.out.1).1) (Bx5.below HB8.out.2 hb9 (Array.getElem?_eq_some_iff.1 HB8.out.2).1)); obtain ⟨s0, s1, s2, s3, s4⟩ := Bx5.cells (HB9.out.1); obtain ⟨t0, t1, t2, t3, t4⟩ := Bx5.cells (HB9.out.2); have hrc := HA9.out.r.cell))
            | (go_at_call 15; go_must (refine (sw_refl l Aa Ar ca cr _ HC9.out (Kd.R_reads' HA9.out.r.2.1).2.2 (by omega) HKD.out).mono ?_; rintro e w10 ⟨rfl, hb10⟩; have HA10 := Lib.hid (HA9.out.later hb10); have HB10 := Lib.hid (And.intro (Bx5.below HB9.out.1 hb10 (Array.getElem?_eq_some_iff.1 HB9.out.1).1) (Bx5.below HB9.out.2 hb10 (Array.getElem?_eq_some_iff.1 HB9.out.2).1)); obtain ⟨s0, s1, s2, s3, s4⟩ := Bx5.cells (HB10.out.1); obtain ⟨t0, t1, t2, t3, t4⟩ := Bx5.cells (HB10.out.2); have hrc := HA10.out.r.cell))
            | (go_at_call 17; go_must (refine (refs_any w.heap.size w.heap.size v l _ HA10.out.f).mono ?_; rintro e w11 ⟨vc, rfl, ho11, hb11⟩; obtain ⟨_, Ac, cc, rfl, hd11⟩ := own_rd ho11; have HD11 := Lib.hid hd11; have HA11 := Lib.hid (HA10.out.later hb11); have HB11 := Lib.hid (And.intro (Bx5.below HB10.out.1 hb11 (Array.getElem?_eq_some_iff.1 HB10.out.1).1) (Bx5.below HB10.out.2 hb11 (Array.getElem?_eq_some_iff.1 HB10.out.2).1)); obtain ⟨s0, s1, s2, s3, s4⟩ := Bx5.cells (HB11.out.1); obtain ⟨t0, t1, t2, t3, t4⟩ := Bx5.cells (HB11.out.2); have hrc := HA11.out.r.cell))
            | (go_at_call 24; go_must (refine (rrefs_any w.heap.size (w.heap.size + 1) _ l _ HA11.out.r).mono ?_; rintro e w12 ⟨vd, rfl, ho12, hb12⟩; obtain ⟨_, Ad, cd, rfl, hd12⟩ := own_rd ho12; have HD12 := Lib.hid hd12; have HE12 := Lib.hid (HD11.out.below hb12.block); have HA12 := Lib.hid (HA11.out.later hb12); have HB12 := Lib.hid (And.intro (Bx5.below HB11.out.1 hb12 (Array.getElem?_eq_some_iff.1 HB11.out.1).1) (Bx5.below HB11.out.2 hb12 (Array.getElem?_eq_some_iff.1 HB11.out.2).1)); obtain ⟨s0, s1, s2, s3, s4⟩ := Bx5.cells (HB12.out.1); obtain ⟨t0, t1, t2, t3, t4⟩ := Bx5.cells (HB12.out.2); have hrc := HA12.out.r.cell))
            | (go_at_call 23; go_must (refine (sames_any Ac Ad cc cd (refsAll l) _ hrl HE12.out HD12.out).mono ?_; rintro e w13 ⟨rfl, hb13⟩; have HA13 := Lib.hid (HA12.out.later hb13); have HB13 := Lib.hid (And.intro (Bx5.below HB12.out.1 hb13 (Array.getElem?_eq_some_iff.1 HB12.out.1).1) (Bx5.below HB12.out.2 hb13 (Array.getElem?_eq_some_iff.1 HB12.out.2).1)); obtain ⟨s0, s1, s2, s3, s4⟩ := Bx5.cells (HB13.out.1); obtain ⟨t0, t1, t2, t3, t4⟩ := Bx5.cells (HB13.out.2); have hrc := HA13.out.r.cell))
            | (go_at_call 14; go_must (refine (awake_any _).mono ?_; rintro e w14 ⟨rfl, hb14⟩; have HA14 := Lib.hid (HA13.out.later hb14); have HB14 := Lib.hid (And.intro (Bx5.below HB13.out.1 hb14 (Array.getElem?_eq_some_iff.1 HB13.out.1).1) (Bx5.below HB13.out.2 hb14 (Array.getElem?_eq_some_iff.1 HB13.out.2).1)); obtain ⟨s0, s1, s2, s3, s4⟩ := Bx5.cells (HB14.out.1); obtain ⟨t0, t1, t2, t3, t4⟩ := Bx5.cells (HB14.out.2); have hrc := HA14.out.r.cell)))
        go_wp2
        go_ret
        exact ⟨rfl, HA14.out.b⟩

theorem own : ownKnob Try.prog.godebug = none := by kernel_rfl
theorem laidOut : laidOutB Try.prog = true := by kernel_rfl
set_option maxRecDepth 100000 in
theorem lifted (os : Os) (started : os.Started) (H : Type) (enc : TypeId × Value → H) :
    ReturnsInHanded {} Try.checked os 7 .any (Rows.bufferPlaysSpec.pre6 enc Try.prog Try.f7 Rows.bufferPlaysRow.domain false) (Rows.bufferPlaysSpec.post enc Try.prog Try.f7 false true false false) := by
  refine returnsInHanded_of_change (C := Try.checked) own started (by kernel_rfl) Try.func7
    (ChangeSpec.witness6 (enc := enc) (C := Try.checked) false ⟨#[], #[.slice none 0 0, .int .i64 0, .int .i64 0, .int .i64 0, .int .i64 0], []⟩ 8 (by kernel_rfl) (by kernel_rfl) (by kernel_rfl) (by kernel_rfl)) ?_
  intro W base args ds gs before hval0 hW hcnd _
  have hval : ∀ (j : Nat) t v, Try.f7.params[j]? = some t → args[j]? = some v → Value.okWide Try.prog W .any base t v := hval0
  have hW' := hW
  obtain ⟨p, q, hA0, hV, rfl, hfz, hnd⟩ := hW
  have hA : DataW.TrodAll enc Try.prog W 0 (fun _ => true) true Try.f7.params.toList args.toList ds p := hA0
  rw [Try.params7] at hA hval
  obtain ⟨v0, vs0, d0, ds0, p0, q0, hargs, rfl, rfl, h0, r0⟩ := trodAll_cons hA
  obtain ⟨v1, vs1, d1, ds1, p1, q1, rfl, rfl, rfl, h1, r1⟩ := trodAll_cons r0
  obtain ⟨v2, vs2, d2, ds2, p2, q2, rfl, rfl, rfl, h2, r2⟩ := trodAll_cons r1
  obtain ⟨v3, vs3, d3, ds3, p3, q3, rfl, rfl, rfl, h3, r3⟩ := trodAll_cons r2
  obtain ⟨v4, vs4, d4, ds4, p4, q4, rfl, rfl, rfl, h4, r4⟩ := trodAll_cons r3
  obtain ⟨rfl, rfl, rfl⟩ := trodAll_nil r4
  obtain rfl : args = #[v0, v1, v2, v3, v4] := by cases args; simp_all
  obtain ⟨rfl, rfl⟩ := trodVars_none hV
  obtain ⟨a0, len0, cap0, rfl⟩ := okWide_slice Try.underlying32 (hval 0 32 v0 rfl rfl)
  have k0 := h0
  have lt0 : ∀ x ∈ p0, x.block < W.heap.size := by obtain ⟨m, hm⟩ := k0; exact DataW.trod_lt m _ _ _ hm
  obtain ⟨fuel0, hf0⟩ := h0
  obtain ⟨x0, ⟨A0, c0, e0, hc0, hr0⟩, ok0⟩ := Op.opens_slice (n := 31) Try.underlying32 (by kernel_rfl) (Ba.opens_w8) H enc W 0 _ _ _ _ _ hf0
  obtain ⟨rfl, rfl, rfl⟩ : a0 = A0 ∧ len0 = x0.length ∧ cap0 = c0 := by simpa [Value.cells] using e0
  obtain ⟨a1, rfl, rfl, rfl, w1⟩ := open_int Try.underlying3 (hval 1 3 v1 rfl rfl) h1
  obtain ⟨a2, rfl, rfl, rfl, w2⟩ := open_int Try.underlying3 (hval 2 3 v2 rfl rfl) h2
  obtain ⟨a3, rfl, rfl, rfl, w3⟩ := open_int Try.underlying3 (hval 3 3 v3 rfl rfl) h3
  obtain ⟨a4, rfl, rfl, rfl, w4⟩ := open_int Try.underlying3 (hval 4 3 v4 rfl rfl) h4
  clear hA0 hval0
  refine (walk W _ _ x0 hc0 hr0 ok0 a1 w1 a2 w2 a3 w3 a4 w4).mono fun e W' ⟨he, bel⟩ => ?_
  subst he
  exact ⟨_, rfl, _, _, _, [], _, [], hW', trodAll_mk1 (shut_bool Try.underlying4 _), (trodAll_cons_mk (Below.trod laidOut (by kernel_rfl) (of_decide_eq_true (by kernel_rfl)) k0 bel lt0) (trodAll_cons_mk (shut_int Try.underlying3 w1) (trodAll_cons_mk (shut_int Try.underlying3 w2) (trodAll_cons_mk (shut_int Try.underlying3 w3) (trodAll_cons_mk (shut_int Try.underlying3 w4) trodAll_mk0))))), rfl, bel.frame _, fun h => by cases h⟩
theorem over : Rows.bufferPlaysRow.holds Try.pinned (OpenSpec.ofChange Rows.bufferPlaysSpec) :=
  OpenClaim.holds_of_wide 7 Try.f7 rfl rfl rfl rfl rfl rfl rfl ⟨rfl, rfl, rfl, rfl, rfl⟩ rfl rfl rfl rfl rfl (by kernel_rfl) Try.func7 (by kernel_rfl)
    (of_decide_eq_true (by kernel_rfl)) (by unfold Func.isWrapper; first | (rw [if_pos (by decide +kernel)]; kernel_rfl) | (rw [if_neg (by decide +kernel)]; exact ⟨rfl, rfl⟩))
    (fun os started H enc _ => lifted os started H enc)
theorem proved : Rows.BufferPlaysSaid := over
#print axioms proved
end Go.Proofs.Ytmdjbldmfmoaaaa.bufferPlays
