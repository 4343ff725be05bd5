/- The closure's statements: awake, refs. -/
import Derived.Test.YtgkjhnilgmokiaaFo
namespace Go.Proofs.Ytgkjhnilgmokiaa.Aw
open Go.RowKit Go.ChangeShapes Go.WideShapes Go.Proofs.YtgkjhnilgmokiaaW.PrintWords Go.Proofs.Ytgkjhnilgmokiaa.Ha Go.Proofs.Ytgkjhnilgmokiaa.Hp Go.Proofs.Ytgkjhnilgmokiaa.Cl Go.Proofs.Ytgkjhnilgmokiaa.Clo Go.Proofs.Ytgkjhnilgmokiaa.W8 Go.Proofs.Ytgkjhnilgmokiaa.Of Go.Proofs.Ytgkjhnilgmokiaa.Fo
set_option linter.unusedVariables false
theorem refs_any (A1 : Option Addr) (n c1 : Nat) (w : World) :
    Calls Try.prog 17 #[.slice A1 n c1] w fun e w' => e = .returned (.func (.func 37) #[] #[.pointer (some ⟨w.heap.size, 0, none⟩)]) ∧ w' = w.alloc (.cells #[.slice A1 n c1] 23) := by
  go_enter Try.func17, Try.ntmps17
  go_wp2
  go_ret
  exact ⟨rfl, rfl⟩
theorem ref_any (x : Int) (w : World) : Calls Try.prog 34 #[.int .i64 x] w fun e w' => e = .returned (.agg #[.int .i64 3, .int .i64 0, .int .u64 0, .int .u64 0, .int .i64 x]) ∧ ∃ cs, w' = w.alloc (.cells cs 36) := by
  go_enter Try.func34, Try.ntmps34
  go_wp2
  exact bodyPost_ret (v := .agg #[.int .i64 3, .int .i64 0, .int .u64 0, .int .u64 0, .int .i64 x]) (by simp [results, Try.results34, go_sem]) rfl ⟨rfl, _, rfl⟩
def wA : W8 := ⟨2, 0, 0, ⟨3, 0, 0, 0, -1⟩⟩
theorem k8_K (w : World) (x : W8) : k8.K w x x.cs :=
  ⟨[_], _, rfl, rfl, ⟨[_], _, rfl, rfl, ⟨[_], _, rfl, rfl, ⟨[_], _, rfl, rfl, ⟨[_], _, rfl, rfl, ⟨[_], _, rfl, rfl, ⟨[_], _, rfl, rfl, rfl⟩⟩⟩⟩⟩⟩⟩
theorem C8_new (w : World) (x : W8) (n : Nat) (hn : n = w.heap.size) : Kd.C k8 (w.alloc (.cells x.cs.toArray 38)) (some ⟨n, 0, none⟩) [x].length [x] := by
  subst hn
  refine ⟨rfl, by simp, fun _ => ⟨_, rfl, fun j p hj => ?_⟩⟩
  have h0 : j = 0 := by
    have := (List.getElem?_eq_some_iff.1 hj).1
    simp at this; exact this
  subst h0
  obtain rfl : x = p := by simpa using hj
  refine ⟨x.cs, rfl, k8_K _ _, fun i u hu => ?_⟩
  rw [Nat.zero_mul, Nat.zero_add]
  have e : (⟨w.heap.size, 0, none⟩ : Addr).add i = ⟨w.heap.size, i, none⟩ := add_plain _ _
  rw [e, cell_of_row _ _ i _ 38 (0, 0) (heap_alloc_new w _)]
  rw [← hu]
  simp
theorem clo_awake : clo r35 65 (sd [wA]) 0 = [-1, -2] := by decide +kernel
set_option maxHeartbeats 1000000 in
theorem awake_any (w : World) : Calls Try.prog 14 #[] w fun e w' => e = .returned (.bool true) ∧ Below w.heap.size w w' := by
  go_enter Try.func14, Try.ntmps14
  go_wp2_with fail
  refine (ref_any _ _).mono ?_
  rintro e w1 ⟨rfl, cs, rfl⟩
  have hb1 := Lib.hid ((Below.refl w.heap.size w).alloc (Nat.le_refl _) (.cells cs 36))
  have HC := Lib.hid (C8_new (w.alloc (.cells cs 36)) wA (w.heap.size + 1) (size_al _ _).symm)
  have hs := size_al w (.cells cs 36)
  have HS := Lib.hid hs
  clear hs
  go_wp2_with fail
  refine (of_35 _ 1 [wA] _ HC.out (by decide)).mono ?_
  rintro e w2 ⟨v, rfl, ho, hb⟩
  rw [clo_awake] at ho
  obtain ⟨ad, c, rfl, h0⟩ := own_form ho 0 (by decide)
  obtain ⟨ad', c', e, h1⟩ := own_form ho 1 (by decide)
  injection e with e1 _ _
  injection e1 with e1
  subst e1
  have hb2 := Lib.hid (((hb1.out.alloc (by rw [HS.out]; omega) _).trans (hb.mono (by rw [size_al, HS.out]; omega))))
  have h0' : w2.cell? ad = some (.int .i64 (-1)) := h0
  have h1' : w2.cell? ⟨ad.block, ad.off + 1, none⟩ = some (.int .i64 (-2)) := h1
  clear ho hb h0 h1
  go_wp2
  go_ret
  exact ⟨rfl, hb2.out⟩
end Go.Proofs.Ytgkjhnilgmokiaa.Aw
