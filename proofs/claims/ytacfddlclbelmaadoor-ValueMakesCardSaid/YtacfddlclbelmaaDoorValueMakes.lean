/-
  Values of each kind; are any two the same?
-/
import Derived.Test.YtacfddlclbelmaaDoorRows
import Derived.WalkKit
import Derived.WalkSpells
import Derived.WalkLawsBesides
import Derived.WalkMore
import Derived.ProofKit
import Derived.OpenShut
import Derived.ShutString
import Derived.ChangeOld
import Derived.Below
import Derived.SizedLaws
import Derived.Lib.Hide
import Derived.Test.YtacfddlclbelmaaDoorOpen
import Derived.Test.YtacfddlclbelmaaDoorVt
import Derived.Test.YtacfddlclbelmaaDoorTie
import Derived.Test.YtacfddlclbelmaaDoorCards
import Derived.SevenTiedAt
import Derived.Test.YtacfddlclbelmaaDoorVe
import Derived.Deep.RegionHeld3
namespace Go.Proofs.YtacfddlclbelmaaDoor.valueMakes
open Go.RowKit Go.ChangeShapes Go.WideShapes Go.ChangeAt Go.Proofs.YtacfddlclbelmaaDoorW.PrintWords
set_option linter.unusedVariables false
open Go.Proofs.YtacfddlclbelmaaDoor.Ba Go.Proofs.YtacfddlclbelmaaDoor.Va Go.Proofs.YtacfddlclbelmaaDoor.Vb Go.Proofs.YtacfddlclbelmaaDoor.Vc Go.Proofs.YtacfddlclbelmaaDoor.Vd Go.Proofs.YtacfddlclbelmaaDoor.Ve
set_option maxHeartbeats 8000000
set_option maxRecDepth 100000
theorem int_ag (n : Int) (w : World) : Calls Tryd.prog 17 #[.int .i64 n] w fun e w' => e = .returned (.agg #[.int .i64 1, .int .i64 n, .int .u64 0, .int .u64 0, .int .i64 0]) ∧ Below w.heap.size w w' := int_any n w
theorem ref_ag (n : Int) (w : World) : Calls Tryd.prog 20 #[.int .i64 n] w fun e w' => e = .returned (.agg #[.int .i64 3, .int .i64 0, .int .u64 0, .int .u64 0, .int .i64 n]) ∧ Below w.heap.size w w' := ref_any n w
theorem nil_ag (w : World) : Calls Tryd.prog 23 #[] w fun e w' => e = .returned (.agg #[.int .i64 0, .int .i64 0, .int .u64 0, .int .u64 0, .int .i64 0]) ∧ Below w.heap.size w w' := nil_any w
theorem num_is (a b : Nat) (w : World) : Calls Tryd.prog 21 #[.agg #[.int .i64 2, .int .i64 0, .int .u64 (a : Int), .int .u64 (b : Int), .int .i64 0]] w fun e w' => e = .returned (.tuple #[.complex .f64 a b, .bool true]) ∧ Below w.heap.size w w' := num_any 2 0 a b 0 w
theorem num_two (n re im ref : Int) (w : World) : Calls Tryd.prog 21 #[.agg #[.int .i64 2, .int .i64 n, .int .u64 re, .int .u64 im, .int .i64 ref]] w fun e w' => e = .returned (.tuple #[.complex .f64 re.toNat im.toNat, .bool true]) ∧ Below w.heap.size w w' := num_any 2 n re im ref w
theorem num_not {kd : Int} (h : ¬ kd = 2) (n re im ref : Int) (w : World) : Calls Tryd.prog 21 #[.agg #[.int .i64 kd, .int .i64 n, .int .u64 re, .int .u64 im, .int .i64 ref]] w fun e w' => e = .returned (.tuple #[.complex .f64 0 0, .bool false]) ∧ Below w.heap.size w w' := by
  refine (num_any kd n re im ref w).mono fun e w' h' => ?_
  rw [if_neg h, if_neg h, show decide (kd = 2) = false by simpa using h] at h'
  exact h'
theorem same_is (a b : Nat) (w : World) : Calls Tryd.prog 22 #[.complex .f64 a b, .complex .f64 a b] w fun e w' => e = .returned (.bool true) ∧ w = w' := by
  refine (same_any a b a b w).mono fun e w' h' => ?_
  rw [show decide (a = a ∧ b = b) = true by simp] at h'
  exact h'
abbrev ZZ : Obj := .cells #[.int .i64 0, .int .i64 0, .int .u64 0, .int .u64 0, .int .i64 0] 24
/-- Three new blocks of five cells, stored whole one behind the other. -/
theorem stored3 (w : World) (a b c : V5) : ∃ w1 w2 w3, (((w.alloc ZZ).alloc ZZ).alloc ZZ).setCells w.heap.size 0 a.cs = w1 ∧ w1.setCells (w.heap.size + 1) 0 b.cs = w2 ∧ w2.setCells (w.heap.size + 1 + 1) 0 c.cs = w3 ∧
    (((w.alloc ZZ).alloc ZZ).alloc ZZ).there w.heap.size 0 5 ∧ w1.there (w.heap.size + 1) 0 5 ∧ w2.there (w.heap.size + 1 + 1) 0 5 ∧ Bx5 w3 w.heap.size a ∧ Bx5 w3 (w.heap.size + 1) b ∧ Bx5 w3 (w.heap.size + 1 + 1) c ∧ Below w.heap.size w w3 := by
  have z1 : Bx5 (w.alloc ZZ) w.heap.size z5 := heap_alloc_new w _
  have z2 : Bx5 ((w.alloc ZZ).alloc ZZ) (w.heap.size + 1) z5 := by have := heap_alloc_new (w.alloc ZZ) ZZ; rw [size_al] at this; exact this
  have z3 : Bx5 (((w.alloc ZZ).alloc ZZ).alloc ZZ) (w.heap.size + 1 + 1) z5 := by have := heap_alloc_new ((w.alloc ZZ).alloc ZZ) ZZ; rw [size_al, size_al] at this; exact this
  have z1' : Bx5 (((w.alloc ZZ).alloc ZZ).alloc ZZ) w.heap.size z5 := blk_below (blk_below z1 (bel_one _ _)) (bel_one _ _)
  have z2' : Bx5 (((w.alloc ZZ).alloc ZZ).alloc ZZ) (w.heap.size + 1) z5 := blk_below z2 (bel_one _ _)
  have hsz : w.heap.size ≤ (((w.alloc ZZ).alloc ZZ).alloc ZZ).heap.size := by rw [size_al, size_al, size_al]; omega
  obtain ⟨w1, a1, a2, a3⟩ := store5 z1' a
  have y2 : Bx5 w1 (w.heap.size + 1) z5 := (a3.block _ (blk_lt z2') (fun e => by injection e with e; omega)).trans z2'
  have y3 : Bx5 w1 (w.heap.size + 1 + 1) z5 := (a3.block _ (blk_lt z3) (fun e => by injection e with e; omega)).trans z3
  obtain ⟨w2, b1, b2, b3⟩ := store5 y2 b
  have x1 : Bx5 w2 w.heap.size a := (b3.block _ (blk_lt a2) (fun e => by injection e with e; omega)).trans a2
  have x3 : Bx5 w2 (w.heap.size + 1 + 1) z5 := (b3.block _ (blk_lt y3) (fun e => by injection e with e; omega)).trans y3
  obtain ⟨w3, c1, c2, c3⟩ := store5 x3 c
  have v1 : Bx5 w3 w.heap.size a := (c3.block _ (blk_lt x1) (fun e => by injection e with e; omega)).trans x1
  have v2 : Bx5 w3 (w.heap.size + 1) b := (c3.block _ (blk_lt b2) (fun e => by injection e with e; omega)).trans b2
  refine ⟨w1, w2, w3, a1, b1, c1, there5 z1', there5 y2, there5 x3, v1, v2, c2, ?_⟩
  have h0 : Below w.heap.size w (((w.alloc ZZ).alloc ZZ).alloc ZZ) := (bel_two w ZZ ZZ).trans ((bel_one _ ZZ).mono (by rw [size_al, size_al]; omega))
  have s1 := a3.size
  have s2 := b3.size
  exact ((h0.trans (below_of_grown a3 (Nat.le_refl _) hsz)).trans (below_of_grown b3 (by omega) (by omega))).trans (below_of_grown c3 (by omega) (by omega))
theorem walk (w : World) (HT0 : Vp.Tab w) (a0 : Int) (w0 : (Lit.int .i64 a0).wf = true) (a1 : Int) (w1 : (Lit.int .u64 a1).wf = true) (a2 : Int) (w2 : (Lit.int .u64 a2).wf = true) (a3 : Int) (w3 : (Lit.int .i64 a3).wf = true) (x4 : Ba.V5) (hk4 : Ba.k5.K w x4 (Ba.agg5 x4).cells.toList) (ok4 : Ba.ok5 x4) (x5 : Ba.V5) (hk5 : Ba.k5.K w x5 (Ba.agg5 x5).cells.toList) (ok5 : Ba.ok5 x5) :
    Calls Tryd.prog 6 #[.int .i64 a0, .int .u64 a1, .int .u64 a2, .int .i64 a3, Ba.agg5 x4, Ba.agg5 x5] w fun e w' => e = .returned (.bool true) ∧ Below w.heap.size w w' := by
  obtain ⟨b1, b2, b3, b4, b5⟩ := x4
  obtain ⟨d1, d2, d3, d4, d5⟩ := x5
  obtain ⟨n1, rfl, hn1⟩ := u64_nat w1
  obtain ⟨n2, rfl, hn2⟩ := u64_nat w2
  have HT := Lib.hid HT0
  clear HT0 w0 w1 w2 w3 hk4 hk5 ok4 ok5
  have hz := hz24'
  have HB0 := Lib.hid (bel_one w (.cells #[.int .i64 b1, .int .i64 b2, .int .u64 b3, .int .u64 b4, .int .i64 b5] 24))
  have HX0 := Lib.hid (show Bx5 (w.alloc (.cells #[.int .i64 b1, .int .i64 b2, .int .u64 b3, .int .u64 b4, .int .i64 b5] 24)) w.heap.size ⟨b1, b2, b3, b4, b5⟩ from heap_alloc_new w _)
  have hs0 := size_al w (.cells #[.int .i64 b1, .int .i64 b2, .int .u64 b3, .int .u64 b4, .int .i64 b5] 24)
  obtain ⟨w0, hw0⟩ : ∃ w0, w.alloc (.cells #[.int .i64 b1, .int .i64 b2, .int .u64 b3, .int .u64 b4, .int .i64 b5] 24) = w0 := ⟨_, rfl⟩
  rw [hw0] at HB0 HX0 hs0
  have hb1 := bel_one w0 (.cells #[.int .i64 d1, .int .i64 d2, .int .u64 d3, .int .u64 d4, .int .i64 d5] 24)
  have HY1 := Lib.hid (show Bx5 (w0.alloc (.cells #[.int .i64 d1, .int .i64 d2, .int .u64 d3, .int .u64 d4, .int .i64 d5] 24)) w0.heap.size ⟨d1, d2, d3, d4, d5⟩ from heap_alloc_new w0 _)
  obtain ⟨w1, hw1⟩ : ∃ w1, w0.alloc (.cells #[.int .i64 d1, .int .i64 d2, .int .u64 d3, .int .u64 d4, .int .i64 d5] 24) = w1 := ⟨_, rfl⟩
  rw [hw1] at hb1 HY1
  have HX1 := Lib.hid (blk_below HX0.out hb1)
  have HB1 := Lib.hid (HB0.out.trans (hb1.mono HB0.out.size))
  have HS1 := Lib.hid hs0
  clear hb1 hs0
  unfold agg5
  dsimp only
  go_enter Tryd.func6, Tryd.ntmps6
  go_wp2_with fail
  refine (int_ag _ _).mono ?_
  rintro e w2 ⟨rfl, hbn⟩
  have HB2 := Lib.hid (HB1.out.trans (hbn.mono HB1.out.size))
  have HX2 := Lib.hid (blk_below HX1.out hbn)
  have HY2 := Lib.hid (blk_below HY1.out hbn)
  clear hbn
  go_wp2_with (go_at_call 19; refine (of19 _ _ _).mono ?_; rintro e wx ⟨rfl, rfl⟩)
  refine (complex_ag _ _ _).mono ?_
  rintro e w3 ⟨rfl, hbn⟩
  have HB3 := Lib.hid (HB2.out.trans (hbn.mono HB2.out.size))
  have HX3 := Lib.hid (blk_below HX2.out hbn)
  have HY3 := Lib.hid (blk_below HY2.out hbn)
  clear hbn
  go_wp2_with fail
  refine (ref_ag _ _).mono ?_
  rintro e w4 ⟨rfl, hbn⟩
  have HB4 := Lib.hid (HB3.out.trans (hbn.mono HB3.out.size))
  have HX4 := Lib.hid (blk_below HX3.out hbn)
  have HY4 := Lib.hid (blk_below HY3.out hbn)
  clear hbn
  obtain ⟨w5, w6, w7, s1, s2, s3, t1, t2, t3, u1, u2, u3, hbn⟩ := stored3 w4 ⟨1, a0, 0, 0, 0⟩ ⟨2, 0, (n1 : Int), (n2 : Int), 0⟩ ⟨3, 0, 0, 0, a3⟩
  have HB7 := Lib.hid (HB4.out.trans (hbn.mono HB4.out.size))
  have HX7 := Lib.hid (blk_below HX4.out hbn)
  have HY7 := Lib.hid (blk_below HY4.out hbn)
  have HS1' := Lib.hid s1
  have HS2' := Lib.hid s2
  have HS3' := Lib.hid s3
  have HT1' := Lib.hid t1
  have HT2' := Lib.hid t2
  have HT3' := Lib.hid t3
  have HU7 := Lib.hid u1
  have HV7 := Lib.hid u2
  have HZ7 := Lib.hid u3
  obtain ⟨p0, p1, p2, p3, p4⟩ := Bx5.cells u2
  obtain ⟨q0, q1, q2, q3, q4⟩ := Bx5.cells HX7.out
  clear hbn s1 s2 s3 t1 t2 t3 u1 u2 u3
  go_wp2_with (first
    | (refine store_named (P := Tryd.prog) rfl 24 (.tmp 13) (.tmp 21) rfl w4.heap.size 0 #[.int .i64 1, .int .i64 a0, .int .u64 0, .int .u64 0, .int .i64 0] rfl rfl HT1'.out infoV (one5 _ _ _ _ _) HS1'.out ?_)
    | (refine store_named (P := Tryd.prog) rfl 24 (.tmp 14) (.tmp 25) rfl (w4.heap.size + 1) 0 #[.int .i64 2, .int .i64 0, .int .u64 (n1 : Int), .int .u64 (n2 : Int), .int .i64 0] rfl rfl HT2'.out infoV (one5 _ _ _ _ _) HS2'.out ?_)
    | (refine store_named (P := Tryd.prog) rfl 24 (.tmp 15) (.tmp 27) rfl (w4.heap.size + 1 + 1) 0 #[.int .i64 3, .int .i64 0, .int .u64 0, .int .u64 0, .int .i64 a3] rfl rfl HT3'.out infoV (one5 _ _ _ _ _) HS3'.out ?_))
  refine (num_is _ _ _).mono ?_
  rintro e w8 ⟨rfl, hbn⟩
  have HB8 := Lib.hid (HB7.out.trans (hbn.mono HB7.out.size))
  have HX8 := Lib.hid (blk_below HX7.out hbn)
  have HY8 := Lib.hid (blk_below HY7.out hbn)
  have HU8 := Lib.hid (blk_below HU7.out hbn)
  have HV8 := Lib.hid (blk_below HV7.out hbn)
  have HZ8 := Lib.hid (blk_below HZ7.out hbn)
  clear hbn p0 p1 p2 p3 p4 q0 q1 q2 q3 q4
  obtain ⟨q0, q1, q2, q3, q4⟩ := Bx5.cells HX8.out
  have bb : ∀ b : Bool, (b == b) = true := fun b => by simp
  have kf : ∀ W : World, (Instr.field 24 (.agg #[.int .i64 0, .int .i64 0, .int .u64 0, .int .u64 0, .int .i64 0]) 0).run Tryd.prog W = .ok (.int .i64 0) W := fun W => by kernel_rfl
  obtain ⟨sv, hsv⟩ : ∃ sv, sameV ⟨b1, b2, b3, b4, b5⟩ ⟨d1, d2, d3, d4, d5⟩ = sv := ⟨_, rfl⟩
  obtain ⟨ss, hss⟩ : ∃ ss, sameV ⟨b1, b2, b3, b4, b5⟩ ⟨b1, b2, b3, b4, b5⟩ = ss := ⟨_, rfl⟩
  have C24 := Lib.hid (fun (W : World) => vsame_any b1 b2 b3 b4 b5 d1 d2 d3 d4 d5 W)
  have C15 := Lib.hid (fun (W : World) => samev_any b1 b2 b3 b4 b5 d1 d2 d3 d4 d5 W)
  have D24 := Lib.hid (fun (W : World) => vsame_any b1 b2 b3 b4 b5 b1 b2 b3 b4 b5 W)
  have D15 := Lib.hid (fun (W : World) => samev_any b1 b2 b3 b4 b5 b1 b2 b3 b4 b5 W)
  unfold agg5 at C24 C15 D24 D15
  dsimp only at C24 C15 D24 D15
  rw [hsv] at C24 C15
  rw [hss] at D24 D15
  clear hsv hss
  by_cases hk : b1 = 2
  · subst hk
    go_wp2_with fail
    refine (num_two _ _ _ _ _).mono ?_
    rintro e w9 ⟨rfl, hb9⟩
    have HB9 := Lib.hid (HB8.out.trans (hb9.mono HB8.out.size))
    have HX9 := Lib.hid (blk_below HX8.out hb9)
    have HY9 := Lib.hid (blk_below HY8.out hb9)
    have HU9 := Lib.hid (blk_below HU8.out hb9)
    have HV9 := Lib.hid (blk_below HV8.out hb9)
    have HZ9 := Lib.hid (blk_below HZ8.out hb9)
    clear hb9 q0 q1 q2 q3 q4
    obtain ⟨q0, q1, q2, q3, q4⟩ := Bx5.cells HX9.out
    go_wp2_with (first | (go_at_call 19; refine (of19 _ _ _).mono ?_; rintro e wx ⟨rfl, rfl⟩) | (go_at_call 22; refine (same_is _ _ _).mono ?_; rintro e wx ⟨rfl, rfl⟩) | fail)
    skip
    have hbd9 := (Below.refl w9.heap.size w9).drew
    have HB10 := Lib.hid (HB9.out.trans (hbd9.mono HB9.out.size))
    have HX10 := Lib.hid (blk_below HX9.out hbd9)
    have HY10 := Lib.hid (blk_below HY9.out hbd9)
    have HU10 := Lib.hid (blk_below HU9.out hbd9)
    have HV10 := Lib.hid (blk_below HV9.out hbd9)
    have HZ10 := Lib.hid (blk_below HZ9.out hbd9)
    clear hbd9 q0 q1 q2 q3 q4
    obtain ⟨q0, q1, q2, q3, q4⟩ := Bx5.cells HX10.out
    obtain ⟨r0, r1, r2, r3, r4⟩ := Bx5.cells HY10.out
    obtain ⟨u0, u1, u2, u3, u4⟩ := Bx5.cells HU10.out
    obtain ⟨v0, v1, v2, v3, v4⟩ := Bx5.cells HV10.out
    obtain ⟨z0, z1, z2, z3, z4⟩ := Bx5.cells HZ10.out
    have e1 : (a0 == a0) = true := by simp
    have e2 : ((n1 : Int) == (n1 : Int)) = true := by simp
    have e3 : ((n2 : Int) == (n2 : Int)) = true := by simp
    have e4 : (a3 == a3) = true := by simp
    go_wp2
    go_region_held3 (fun w' => w'.cell? ⟨w.heap.size, 0, none⟩ = some (.int .i64 2) ∧ w'.cell? ⟨w.heap.size, 1, none⟩ = some (.int .i64 b2) ∧ w'.cell? ⟨w.heap.size, 2, none⟩ = some (.int .u64 b3) ∧ w'.cell? ⟨w.heap.size, 3, none⟩ = some (.int .u64 b4) ∧ w'.cell? ⟨w.heap.size, 4, none⟩ = some (.int .i64 b5) ∧ w'.cell? ⟨w0.heap.size, 0, none⟩ = some (.int .i64 d1) ∧ w'.cell? ⟨w0.heap.size, 1, none⟩ = some (.int .i64 d2) ∧ w'.cell? ⟨w0.heap.size, 2, none⟩ = some (.int .u64 d3) ∧ w'.cell? ⟨w0.heap.size, 3, none⟩ = some (.int .u64 d4) ∧ w'.cell? ⟨w0.heap.size, 4, none⟩ = some (.int .i64 d5) ∧ w'.cell? ⟨w4.heap.size, 0, none⟩ = some (.int .i64 1) ∧ w'.cell? ⟨w4.heap.size, 1, none⟩ = some (.int .i64 a0) ∧ w'.cell? ⟨(w4.heap.size + 1), 0, none⟩ = some (.int .i64 2) ∧ w'.cell? ⟨(w4.heap.size + 1), 2, none⟩ = some (.int .u64 (n1 : Int)) ∧ w'.cell? ⟨(w4.heap.size + 1), 3, none⟩ = some (.int .u64 (n2 : Int)) ∧ w'.cell? ⟨(w4.heap.size + 1 + 1), 0, none⟩ = some (.int .i64 3) ∧ w'.cell? ⟨(w4.heap.size + 1 + 1), 4, none⟩ = some (.int .i64 a3))
      (first | ((try dsimp only); refine ⟨?_, ?_, ?_, ?_, ?_, ?_, ?_, ?_, ?_, ?_, ?_, ?_, ?_, ?_, ?_, ?_, ?_⟩ <;> assumption) | fail)
      (first
        | (go_at_call 23; (with_reducible show Calls _ _ _ w9.drew _); go_must (refine (nil_ag _).mono ?_; rintro e w11 ⟨rfl, hb11⟩; have HB11 := Lib.hid (HB10.out.trans (hb11.mono HB10.out.size)); have HX11 := Lib.hid (blk_below HX10.out hb11); have HY11 := Lib.hid (blk_below HY10.out hb11); have HU11 := Lib.hid (blk_below HU10.out hb11); have HV11 := Lib.hid (blk_below HV10.out hb11); have HZ11 := Lib.hid (blk_below HZ10.out hb11); obtain ⟨q0, q1, q2, q3, q4⟩ := Bx5.cells HX11.out; obtain ⟨r0, r1, r2, r3, r4⟩ := Bx5.cells HY11.out; obtain ⟨u0, u1, u2, u3, u4⟩ := Bx5.cells HU11.out; obtain ⟨v0, v1, v2, v3, v4⟩ := Bx5.cells HV11.out; obtain ⟨z0, z1, z2, z3, z4⟩ := Bx5.cells HZ11.out))
        | (go_at_call 24; (with_reducible show Calls _ _ _ w11 _); go_must (refine (C24.out _).mono ?_; rintro e w12 ⟨rfl, hb12⟩; have HB12 := Lib.hid (HB11.out.trans (hb12.mono HB11.out.size)); have HX12 := Lib.hid (blk_below HX11.out hb12); have HY12 := Lib.hid (blk_below HY11.out hb12); have HU12 := Lib.hid (blk_below HU11.out hb12); have HV12 := Lib.hid (blk_below HV11.out hb12); have HZ12 := Lib.hid (blk_below HZ11.out hb12); obtain ⟨q0, q1, q2, q3, q4⟩ := Bx5.cells HX12.out; obtain ⟨r0, r1, r2, r3, r4⟩ := Bx5.cells HY12.out; obtain ⟨u0, u1, u2, u3, u4⟩ := Bx5.cells HU12.out; obtain ⟨v0, v1, v2, v3, v4⟩ := Bx5.cells HV12.out; obtain ⟨z0, z1, z2, z3, z4⟩ := Bx5.cells HZ12.out))
        | (go_at_call 15; (with_reducible show Calls _ _ _ w12 _); go_must (refine (C15.out _).mono ?_; rintro e w13 ⟨rfl, hb13⟩; have HB13 := Lib.hid (HB12.out.trans (hb13.mono HB12.out.size)); have HX13 := Lib.hid (blk_below HX12.out hb13); have HY13 := Lib.hid (blk_below HY12.out hb13); have HU13 := Lib.hid (blk_below HU12.out hb13); have HV13 := Lib.hid (blk_below HV12.out hb13); have HZ13 := Lib.hid (blk_below HZ12.out hb13); obtain ⟨q0, q1, q2, q3, q4⟩ := Bx5.cells HX13.out; obtain ⟨r0, r1, r2, r3, r4⟩ := Bx5.cells HY13.out; obtain ⟨u0, u1, u2, u3, u4⟩ := Bx5.cells HU13.out; obtain ⟨v0, v1, v2, v3, v4⟩ := Bx5.cells HV13.out; obtain ⟨z0, z1, z2, z3, z4⟩ := Bx5.cells HZ13.out))
        | (go_at_call 24; (with_reducible show Calls _ _ _ w13 _); go_must (refine (D24.out _).mono ?_; rintro e w14 ⟨rfl, hb14⟩; have HB14 := Lib.hid (HB13.out.trans (hb14.mono HB13.out.size)); have HX14 := Lib.hid (blk_below HX13.out hb14); have HY14 := Lib.hid (blk_below HY13.out hb14); have HU14 := Lib.hid (blk_below HU13.out hb14); have HV14 := Lib.hid (blk_below HV13.out hb14); have HZ14 := Lib.hid (blk_below HZ13.out hb14); obtain ⟨q0, q1, q2, q3, q4⟩ := Bx5.cells HX14.out; obtain ⟨r0, r1, r2, r3, r4⟩ := Bx5.cells HY14.out; obtain ⟨u0, u1, u2, u3, u4⟩ := Bx5.cells HU14.out; obtain ⟨v0, v1, v2, v3, v4⟩ := Bx5.cells HV14.out; obtain ⟨z0, z1, z2, z3, z4⟩ := Bx5.cells HZ14.out))
        | (go_at_call 15; (with_reducible show Calls _ _ _ w14 _); go_must (refine (D15.out _).mono ?_; rintro e w15 ⟨rfl, hb15⟩; have HB15 := Lib.hid (HB14.out.trans (hb15.mono HB14.out.size)); have HX15 := Lib.hid (blk_below HX14.out hb15); have HY15 := Lib.hid (blk_below HY14.out hb15); have HU15 := Lib.hid (blk_below HU14.out hb15); have HV15 := Lib.hid (blk_below HV14.out hb15); have HZ15 := Lib.hid (blk_below HZ14.out hb15); obtain ⟨q0, q1, q2, q3, q4⟩ := Bx5.cells HX15.out; obtain ⟨r0, r1, r2, r3, r4⟩ := Bx5.cells HY15.out; obtain ⟨u0, u1, u2, u3, u4⟩ := Bx5.cells HU15.out; obtain ⟨v0, v1, v2, v3, v4⟩ := Bx5.cells HV15.out; obtain ⟨z0, z1, z2, z3, z4⟩ := Bx5.cells HZ15.out))
        | (go_at_call 16; go_must (refine (Vp.awake_any _ (HT.out.below HB15.out)).mono ?_; rintro e w16 ⟨rfl, hb16⟩; have HB16 := Lib.hid (HB15.out.trans (hb16.mono HB15.out.size)); have HX16 := Lib.hid (blk_below HX15.out hb16); have HY16 := Lib.hid (blk_below HY15.out hb16); have HU16 := Lib.hid (blk_below HU15.out hb16); have HV16 := Lib.hid (blk_below HV15.out hb16); have HZ16 := Lib.hid (blk_below HZ15.out hb16); obtain ⟨q0, q1, q2, q3, q4⟩ := Bx5.cells HX16.out; obtain ⟨r0, r1, r2, r3, r4⟩ := Bx5.cells HY16.out; obtain ⟨u0, u1, u2, u3, u4⟩ := Bx5.cells HU16.out; obtain ⟨v0, v1, v2, v3, v4⟩ := Bx5.cells HV16.out; obtain ⟨z0, z1, z2, z3, z4⟩ := Bx5.cells HZ16.out))
        | fail)
    all_goals
      go_wp2
      go_ret
      exact ⟨rfl, HB16.out⟩
  · have k1 : (b1 == 2) = false := by rw [beq_eq_false_iff_ne]; exact hk
    go_wp2_with fail
    refine (num_not hk _ _ _ _ _).mono ?_
    rintro e w9 ⟨rfl, hb9⟩
    have HB9 := Lib.hid (HB8.out.trans (hb9.mono HB8.out.size))
    have HX9 := Lib.hid (blk_below HX8.out hb9)
    have HY9 := Lib.hid (blk_below HY8.out hb9)
    have HU9 := Lib.hid (blk_below HU8.out hb9)
    have HV9 := Lib.hid (blk_below HV8.out hb9)
    have HZ9 := Lib.hid (blk_below HZ8.out hb9)
    clear hb9 q0 q1 q2 q3 q4
    obtain ⟨q0, q1, q2, q3, q4⟩ := Bx5.cells HX9.out
    go_wp2_with (first | (go_at_call 19; refine (of19 _ _ _).mono ?_; rintro e wx ⟨rfl, rfl⟩) | (go_at_call 22; refine (same_is _ _ _).mono ?_; rintro e wx ⟨rfl, rfl⟩) | fail)
    skip
    have hbd9 := (Below.refl w9.heap.size w9).drew
    have HB10 := Lib.hid (HB9.out.trans (hbd9.mono HB9.out.size))
    have HX10 := Lib.hid (blk_below HX9.out hbd9)
    have HY10 := Lib.hid (blk_below HY9.out hbd9)
    have HU10 := Lib.hid (blk_below HU9.out hbd9)
    have HV10 := Lib.hid (blk_below HV9.out hbd9)
    have HZ10 := Lib.hid (blk_below HZ9.out hbd9)
    clear hbd9 q0 q1 q2 q3 q4
    obtain ⟨q0, q1, q2, q3, q4⟩ := Bx5.cells HX10.out
    obtain ⟨r0, r1, r2, r3, r4⟩ := Bx5.cells HY10.out
    obtain ⟨u0, u1, u2, u3, u4⟩ := Bx5.cells HU10.out
    obtain ⟨v0, v1, v2, v3, v4⟩ := Bx5.cells HV10.out
    obtain ⟨z0, z1, z2, z3, z4⟩ := Bx5.cells HZ10.out
    have e1 : (a0 == a0) = true := by simp
    have e2 : ((n1 : Int) == (n1 : Int)) = true := by simp
    have e3 : ((n2 : Int) == (n2 : Int)) = true := by simp
    have e4 : (a3 == a3) = true := by simp
    go_wp2
    go_region_held3 (fun w' => w'.cell? ⟨w.heap.size, 0, none⟩ = some (.int .i64 b1) ∧ w'.cell? ⟨w.heap.size, 1, none⟩ = some (.int .i64 b2) ∧ w'.cell? ⟨w.heap.size, 2, none⟩ = some (.int .u64 b3) ∧ w'.cell? ⟨w.heap.size, 3, none⟩ = some (.int .u64 b4) ∧ w'.cell? ⟨w.heap.size, 4, none⟩ = some (.int .i64 b5) ∧ w'.cell? ⟨w0.heap.size, 0, none⟩ = some (.int .i64 d1) ∧ w'.cell? ⟨w0.heap.size, 1, none⟩ = some (.int .i64 d2) ∧ w'.cell? ⟨w0.heap.size, 2, none⟩ = some (.int .u64 d3) ∧ w'.cell? ⟨w0.heap.size, 3, none⟩ = some (.int .u64 d4) ∧ w'.cell? ⟨w0.heap.size, 4, none⟩ = some (.int .i64 d5) ∧ w'.cell? ⟨w4.heap.size, 0, none⟩ = some (.int .i64 1) ∧ w'.cell? ⟨w4.heap.size, 1, none⟩ = some (.int .i64 a0) ∧ w'.cell? ⟨(w4.heap.size + 1), 0, none⟩ = some (.int .i64 2) ∧ w'.cell? ⟨(w4.heap.size + 1), 2, none⟩ = some (.int .u64 (n1 : Int)) ∧ w'.cell? ⟨(w4.heap.size + 1), 3, none⟩ = some (.int .u64 (n2 : Int)) ∧ w'.cell? ⟨(w4.heap.size + 1 + 1), 0, none⟩ = some (.int .i64 3) ∧ w'.cell? ⟨(w4.heap.size + 1 + 1), 4, none⟩ = some (.int .i64 a3))
      (first | ((try dsimp only); refine ⟨?_, ?_, ?_, ?_, ?_, ?_, ?_, ?_, ?_, ?_, ?_, ?_, ?_, ?_, ?_, ?_, ?_⟩ <;> assumption) | fail)
      (first
        | (go_at_call 23; (with_reducible show Calls _ _ _ w9.drew _); go_must (refine (nil_ag _).mono ?_; rintro e w11 ⟨rfl, hb11⟩; have HB11 := Lib.hid (HB10.out.trans (hb11.mono HB10.out.size)); have HX11 := Lib.hid (blk_below HX10.out hb11); have HY11 := Lib.hid (blk_below HY10.out hb11); have HU11 := Lib.hid (blk_below HU10.out hb11); have HV11 := Lib.hid (blk_below HV10.out hb11); have HZ11 := Lib.hid (blk_below HZ10.out hb11); obtain ⟨q0, q1, q2, q3, q4⟩ := Bx5.cells HX11.out; obtain ⟨r0, r1, r2, r3, r4⟩ := Bx5.cells HY11.out; obtain ⟨u0, u1, u2, u3, u4⟩ := Bx5.cells HU11.out; obtain ⟨v0, v1, v2, v3, v4⟩ := Bx5.cells HV11.out; obtain ⟨z0, z1, z2, z3, z4⟩ := Bx5.cells HZ11.out))
        | (go_at_call 24; (with_reducible show Calls _ _ _ w11 _); go_must (refine (C24.out _).mono ?_; rintro e w12 ⟨rfl, hb12⟩; have HB12 := Lib.hid (HB11.out.trans (hb12.mono HB11.out.size)); have HX12 := Lib.hid (blk_below HX11.out hb12); have HY12 := Lib.hid (blk_below HY11.out hb12); have HU12 := Lib.hid (blk_below HU11.out hb12); have HV12 := Lib.hid (blk_below HV11.out hb12); have HZ12 := Lib.hid (blk_below HZ11.out hb12); obtain ⟨q0, q1, q2, q3, q4⟩ := Bx5.cells HX12.out; obtain ⟨r0, r1, r2, r3, r4⟩ := Bx5.cells HY12.out; obtain ⟨u0, u1, u2, u3, u4⟩ := Bx5.cells HU12.out; obtain ⟨v0, v1, v2, v3, v4⟩ := Bx5.cells HV12.out; obtain ⟨z0, z1, z2, z3, z4⟩ := Bx5.cells HZ12.out))
        | (go_at_call 15; (with_reducible show Calls _ _ _ w12 _); go_must (refine (C15.out _).mono ?_; rintro e w13 ⟨rfl, hb13⟩; have HB13 := Lib.hid (HB12.out.trans (hb13.mono HB12.out.size)); have HX13 := Lib.hid (blk_below HX12.out hb13); have HY13 := Lib.hid (blk_below HY12.out hb13); have HU13 := Lib.hid (blk_below HU12.out hb13); have HV13 := Lib.hid (blk_below HV12.out hb13); have HZ13 := Lib.hid (blk_below HZ12.out hb13); obtain ⟨q0, q1, q2, q3, q4⟩ := Bx5.cells HX13.out; obtain ⟨r0, r1, r2, r3, r4⟩ := Bx5.cells HY13.out; obtain ⟨u0, u1, u2, u3, u4⟩ := Bx5.cells HU13.out; obtain ⟨v0, v1, v2, v3, v4⟩ := Bx5.cells HV13.out; obtain ⟨z0, z1, z2, z3, z4⟩ := Bx5.cells HZ13.out))
        | (go_at_call 24; (with_reducible show Calls _ _ _ w13 _); go_must (refine (D24.out _).mono ?_; rintro e w14 ⟨rfl, hb14⟩; have HB14 := Lib.hid (HB13.out.trans (hb14.mono HB13.out.size)); have HX14 := Lib.hid (blk_below HX13.out hb14); have HY14 := Lib.hid (blk_below HY13.out hb14); have HU14 := Lib.hid (blk_below HU13.out hb14); have HV14 := Lib.hid (blk_below HV13.out hb14); have HZ14 := Lib.hid (blk_below HZ13.out hb14); obtain ⟨q0, q1, q2, q3, q4⟩ := Bx5.cells HX14.out; obtain ⟨r0, r1, r2, r3, r4⟩ := Bx5.cells HY14.out; obtain ⟨u0, u1, u2, u3, u4⟩ := Bx5.cells HU14.out; obtain ⟨v0, v1, v2, v3, v4⟩ := Bx5.cells HV14.out; obtain ⟨z0, z1, z2, z3, z4⟩ := Bx5.cells HZ14.out))
        | (go_at_call 15; (with_reducible show Calls _ _ _ w14 _); go_must (refine (D15.out _).mono ?_; rintro e w15 ⟨rfl, hb15⟩; have HB15 := Lib.hid (HB14.out.trans (hb15.mono HB14.out.size)); have HX15 := Lib.hid (blk_below HX14.out hb15); have HY15 := Lib.hid (blk_below HY14.out hb15); have HU15 := Lib.hid (blk_below HU14.out hb15); have HV15 := Lib.hid (blk_below HV14.out hb15); have HZ15 := Lib.hid (blk_below HZ14.out hb15); obtain ⟨q0, q1, q2, q3, q4⟩ := Bx5.cells HX15.out; obtain ⟨r0, r1, r2, r3, r4⟩ := Bx5.cells HY15.out; obtain ⟨u0, u1, u2, u3, u4⟩ := Bx5.cells HU15.out; obtain ⟨v0, v1, v2, v3, v4⟩ := Bx5.cells HV15.out; obtain ⟨z0, z1, z2, z3, z4⟩ := Bx5.cells HZ15.out))
        | (go_at_call 16; go_must (refine (Vp.awake_any _ (HT.out.below HB15.out)).mono ?_; rintro e w16 ⟨rfl, hb16⟩; have HB16 := Lib.hid (HB15.out.trans (hb16.mono HB15.out.size)); have HX16 := Lib.hid (blk_below HX15.out hb16); have HY16 := Lib.hid (blk_below HY15.out hb16); have HU16 := Lib.hid (blk_below HU15.out hb16); have HV16 := Lib.hid (blk_below HV15.out hb16); have HZ16 := Lib.hid (blk_below HZ15.out hb16); obtain ⟨q0, q1, q2, q3, q4⟩ := Bx5.cells HX16.out; obtain ⟨r0, r1, r2, r3, r4⟩ := Bx5.cells HY16.out; obtain ⟨u0, u1, u2, u3, u4⟩ := Bx5.cells HU16.out; obtain ⟨v0, v1, v2, v3, v4⟩ := Bx5.cells HV16.out; obtain ⟨z0, z1, z2, z3, z4⟩ := Bx5.cells HZ16.out))
        | fail)
    all_goals
      go_wp2
      go_ret
      exact ⟨rfl, HB16.out⟩

theorem own : ownKnob Tryd.prog.godebug = none := by kernel_rfl
theorem laidOut : laidOutB Tryd.prog = true := by kernel_rfl
set_option maxRecDepth 100000 in
theorem lifted (os : Os) (started : os.Started) (H : Type) (enc : TypeId × Value → H) :
    ReturnsInHanded {} Tryd.checked os 6 .any (fun w args => (Rows.valueMakesSpec.pre enc Tryd.prog Tryd.f6 [] false w args ∧ laidMetH Tryd.prog Vt.laid w) ∧ sizedMet enc Tryd.prog Tryd.f6 (OpenSpec.ofChange Rows.valueMakesSpec) false w args) (Rows.valueMakesSpec.post enc Tryd.prog Tryd.f6 false true false false) := by
  refine returnsInHanded_of_change_and (C := Tryd.checked) (X := fun w _ => laidMetH Tryd.prog Vt.laid w) (fun _ _ _ hh h => h.of_heap hh) own started (by kernel_rfl) Tryd.func6
    (ChangeSpec.witness_shaped (enc := enc) (C := Tryd.checked) (os := os) (X := fun w _ => laidMetH Tryd.prog Vt.laid w) false (World.doorLaid Tryd.prog 400 os) #[.int .i64 0, .int .u64 0, .int .u64 0, .int .i64 0, .agg #[.int .i64 0, .int .i64 0, .int .u64 0, .int .u64 0, .int .i64 0], .agg #[.int .i64 0, .int .i64 0, .int .u64 0, .int .u64 0, .int .i64 0]] 8 rfl (World.shaped_of_RefB (by kernel_rfl) (by kernel_rfl)) (by kernel_rfl) (by kernel_rfl) (by kernel_rfl) (Vt.door_met os _)) ?_
  intro W base args ds gs before hval0 hW _ _ hL _
  have hval : ∀ (j : Nat) t v, Tryd.f6.params[j]? = some t → args[j]? = some v → Value.okWide Tryd.prog W .any base t v := hval0
  have hW' := hW
  obtain ⟨p, q, hA0, hV, rfl, hfz, hnd⟩ := hW
  have hA : DataW.TrodAll enc Tryd.prog W 0 (fun _ => true) true Tryd.f6.params.toList args.toList ds p := hA0
  rw [Tryd.params6] at hA hval
  obtain ⟨v0, vs0, d0, ds0, p0, q0, hargs, rfl, rfl, h0, r0⟩ := trodAll_cons hA
  obtain ⟨v1, vs1, d1, ds1, p1, q1, rfl, rfl, rfl, h1, r1⟩ := trodAll_cons r0
  obtain ⟨v2, vs2, d2, ds2, p2, q2, rfl, rfl, rfl, h2, r2⟩ := trodAll_cons r1
  obtain ⟨v3, vs3, d3, ds3, p3, q3, rfl, rfl, rfl, h3, r3⟩ := trodAll_cons r2
  obtain ⟨v4, vs4, d4, ds4, p4, q4, rfl, rfl, rfl, h4, r4⟩ := trodAll_cons r3
  obtain ⟨v5, vs5, d5, ds5, p5, q5, rfl, rfl, rfl, h5, r5⟩ := trodAll_cons r4
  obtain ⟨rfl, rfl, rfl⟩ := trodAll_nil r5
  obtain rfl : args = #[v0, v1, v2, v3, v4, v5] := by cases args; simp_all
  obtain ⟨rfl, rfl⟩ := trodVars_none hV
  obtain ⟨a0, rfl, rfl, rfl, w0⟩ := open_int Tryd.underlying2 (hval 0 2 v0 rfl rfl) h0
  obtain ⟨a1, rfl, rfl, rfl, w1⟩ := open_int Tryd.underlying22 (hval 1 22 v1 rfl rfl) h1
  obtain ⟨a2, rfl, rfl, rfl, w2⟩ := open_int Tryd.underlying22 (hval 2 22 v2 rfl rfl) h2
  obtain ⟨a3, rfl, rfl, rfl, w3⟩ := open_int Tryd.underlying3 (hval 3 3 v3 rfl rfl) h3
  have k4 := h4
  have lt4 : ∀ x ∈ p4, x.block < W.heap.size := by obtain ⟨m, hm⟩ := k4; exact DataW.trod_lt m _ _ _ hm
  obtain ⟨fuel4, hf4⟩ := h4
  obtain ⟨x4, hk4, ok4⟩ := (Ba.opens_v5) H enc W 0 _ _ _ _ _ hf4
  obtain rfl : v4 = Ba.agg5 x4 := Ba.agg5_of (hval 4 24 v4 rfl rfl) hk4
  have k5 := h5
  have lt5 : ∀ x ∈ p5, x.block < W.heap.size := by obtain ⟨m, hm⟩ := k5; exact DataW.trod_lt m _ _ _ hm
  obtain ⟨fuel5, hf5⟩ := h5
  obtain ⟨x5, hk5, ok5⟩ := (Ba.opens_v5) H enc W 0 _ _ _ _ _ hf5
  obtain rfl : v5 = Ba.agg5 x5 := Ba.agg5_of (hval 5 24 v5 rfl rfl) hk5
  clear hA0 hval0
  refine (walk W (Vt.tab hL) a0 w0 a1 w1 a2 w2 a3 w3 x4 hk4 ok4 x5 hk5 ok5).mono fun e W' ⟨he, bel⟩ => ?_
  subst he
  exact ⟨_, rfl, _, _, _, [], _, [], hW', trodAll_mk1 (shut_bool Tryd.underlying4 _), (trodAll_cons_mk (shut_int Tryd.underlying2 w0) (trodAll_cons_mk (shut_int Tryd.underlying22 w1) (trodAll_cons_mk (shut_int Tryd.underlying22 w2) (trodAll_cons_mk (shut_int Tryd.underlying3 w3) (trodAll_cons_mk (Below.trod laidOut (by kernel_rfl) (of_decide_eq_true (by kernel_rfl)) k4 bel lt4) (trodAll_cons_mk (Below.trod laidOut (by kernel_rfl) (of_decide_eq_true (by kernel_rfl)) k5 bel lt5) trodAll_mk0)))))), rfl, bel.frame _, fun h => by cases h⟩
theorem over : Rows.valueMakesRow.holds Tryd.pinned (OpenSpec.ofChange Rows.valueMakesSpec) :=
  OpenClaim.holds_of_wide 6 Tryd.f6 rfl rfl rfl rfl rfl rfl rfl ⟨rfl, rfl, rfl, rfl, rfl⟩ rfl rfl rfl rfl rfl (by kernel_rfl) Tryd.func6 (by kernel_rfl)
    (of_decide_eq_true (by kernel_rfl)) (by unfold Func.isWrapper; first | (rw [if_pos (by decide +kernel)]; kernel_rfl) | (rw [if_neg (by decide +kernel)]; exact ⟨rfl, rfl⟩))
    (fun os started H enc _ => lifted os started H enc)
theorem proved : Rows.ValueMakesCardSaid :=
  Claim7.holds_tied_plain_at .later [] [.data, .data, .data, .sentinel, .sentinel] true (true, "c31e0e6559b74baf15febe27140eed1b2e056e84c829090b08d6d10ed788757f") true
    over (fun _ h => by cases h) (by kernel_rfl) (fun _ h => by cases h) valueMakes_row_tie rfl ⟨rfl, rfl⟩ (by kernel_rfl) rfl
    (fun f fn hf hfn => by
      obtain rfl : f = 6 := Option.some.inj ((show Tryd.prog.funcNamed "scullion/scullionlaw10.ValueMakes" = some 6 by kernel_rfl).symm.trans hf) |>.symm
      obtain rfl : fn = Tryd.f6 := (Option.some.inj (Tryd.func6.symm.trans hfn)).symm
      exact ⟨by kernel_rfl, fun j t ht => by
        rw [Tryd.params6] at ht
        have hm : t ∈ [2, 22, 22, 3, 24, 24] := by simpa using Array.mem_of_getElem? ht
        have hall : ([2, 22, 22, 3, 24, 24].all fun u => !Tryd.prog.wantsStandIn u) = true := by kernel_rfl
        exact (show Tryd.prog.wantsStandIn t = false by simpa using List.all_eq_true.1 hall t hm)⟩)
    (by kernel_rfl)
#print axioms proved
end Go.Proofs.YtacfddlclbelmaaDoor.valueMakes
