/-
  As many nodes as may be, in a row, and more.
-/
import Derived.Test.YtdgclpgjoanimaaRows
import Derived.WalkKit
import Derived.WalkSpells
import Derived.WalkLawsBesides
import Derived.WalkMore
import Derived.ProofKit
import Derived.OpenShut
import Derived.ShutString
import Derived.ChangeOld
import Derived.Below
import Derived.SizedLaws
import Derived.Lib.Hide
import Derived.Test.YtdgclpgjoanimaaOpen
import Derived.Test.YtdgclpgjoanimaaLw
import Derived.Test.YtdgclpgjoanimaaAl
import Derived.Test.YtdgclpgjoanimaaCh
namespace Go.Proofs.Ytdgclpgjoanimaa.graphMany
open Go.RowKit Go.ChangeShapes Go.WideShapes Go.ChangeAt Go.Proofs.YtdgclpgjoanimaaW.PrintWords
set_option linter.unusedVariables false
open Go.Proofs.Ytdgclpgjoanimaa.Ba Go.Proofs.Ytdgclpgjoanimaa.Ma Go.Proofs.Ytdgclpgjoanimaa.Mb Go.Proofs.Ytdgclpgjoanimaa.Pu Go.Proofs.Ytdgclpgjoanimaa.To Go.Proofs.Ytdgclpgjoanimaa.Tr Go.Proofs.Ytdgclpgjoanimaa.Wa Go.Proofs.Ytdgclpgjoanimaa.Ch Go.Proofs.Ytdgclpgjoanimaa.Lw
theorem modl10 (m : Int) : ∃ d : Nat, d < 10 ∧ wrap64 ((IntKind.u64.wrap m).tmod 10) = (d : Int) := by
  have h0 : 0 ≤ m % 18446744073709551616 := Int.emod_nonneg _ (by omega)
  rw [IntKind.wrap_u64, Int.tmod_eq_emod_of_nonneg h0]
  refine ⟨(m % 18446744073709551616 % 10).toNat, by omega, ?_⟩
  unfold wrap64
  omega
/-- A row of one value, made at once. -/
theorem r5_one (W : World) (base : Nat) (hb : base ≤ W.heap.size) (x : V5) : R5 (W.alloc (.cells x.cs.toArray 37)) base (.slice (some ⟨W.heap.size, 0, none⟩) 1 1) [x] :=
  ⟨fun _ _ => trivial, x.cs, World.ownsRow_lit (base := base) (e := 37) (size := 5) W x.cs.toArray 1 hb (by decide) rfl, by
    have := (Reps.none (k5.M (W.alloc (.cells x.cs.toArray 37)) base (fun k => True ∧ some k ≠ (Value.slice (some ⟨W.heap.size, 0, none⟩) 1 1).ownBlock)) 5).snoc (k5_M _ _ _ x) rfl
    exact this⟩
/-- A node made of a row of one's own, beside the row it is put into. -/
theorem node_M {W : World} {base : Nat} {vN v7 : Value} {LN : List N2} {fs : List V5} {x0 : Int} (h2 : R2 W base vN LN) (h5 : R5 W base v7 fs) : k2.M W base (fun k => some k ≠ vN.ownBlock) ⟨x0, fs⟩ [.int .i64 x0, v7] :=
  ⟨[_], [_], rfl, rfl, _, rfl, Kd.R_mono (Kd.R_bound h5) (fun q hq e => by
    obtain ⟨_, _, _, qq, hqq, cells, hcell⟩ := hq
    obtain ⟨cs, hcs⟩ := own_typed (Kd.R_own h2).choose_spec q e.symm
    rw [hcs] at hcell
    injection hcell with hcell
    injection hcell with _ hcell
    rw [← hcell] at hqq
    exact absurd hqq (by decide))⟩
set_option maxHeartbeats 16000000
set_option maxRecDepth 100000
theorem walk (w : World) (a0 : Int) (w0 : (Lit.int .i64 a0).wf = true) :
    Calls Try.prog 8 #[.int .i64 a0] w fun e w' => e = .returned (.bool true) ∧ Below w.heap.size w w' := by
  obtain ⟨d, hd, hm⟩ := modl10 a0
  obtain ⟨n, hn⟩ : ∃ n : Nat, n = 4090 + d := ⟨_, rfl⟩
  have hs : (4090 : Int) + (d : Int) = (n : Int) := by omega
  have h60 : 4090 ≤ n := by omega
  have h67 : n ≤ 4099 := by omega
  clear hd hn
  have hz25 : ∀ w, (zeroValue 25).run Try.prog w = .ok (.agg #[.slice none 0 0, .slice none 0 0, .slice none 0 0]) w := fun w => by kernel_rfl
  have hz34 : ∀ w, (zeroValue 34).run Try.prog w = .ok (.agg #[.int .i64 0, .slice none 0 0]) w := fun w => by kernel_rfl
  obtain ⟨w1, hw1⟩ : ∃ w1, w.alloc (.cells #[.int .i64 0] 3) = w1 := ⟨_, rfl⟩
  have HR0 : Hid (w1.heap[w.heap.size]? = some (.cells #[.int .i64 0] 3 (0, 0))) := Lib.hid (by rw [← hw1]; exact heap_alloc_new w _)
  have HB1 : Hid (Below w.heap.size w w1) := Lib.hid (by rw [← hw1]; exact (Below.refl _ _).alloc (Nat.le_refl _) _)
  have hs1 : w1.heap.size = w.heap.size + 1 := by rw [← hw1, size_al]
  have HS1 := Lib.hid hs1
  have HG0 : Hid ((w1.alloc (.cells #[.slice none 0 0, .slice (some ⟨w.heap.size, 0, none⟩) 1 1, .slice none 0 0] 25)).heap[w.heap.size + 1]? = some (.cells #[.slice none 0 0, .slice (some ⟨w.heap.size, 0, none⟩) 1 1, .slice none 0 0] 25 (0, 0))) := Lib.hid (by rw [← hs1]; exact heap_alloc_new w1 _)
  have HB2 : Hid (Below (w.heap.size + 1) w1 (w1.alloc (.cells #[.slice none 0 0, .slice (some ⟨w.heap.size, 0, none⟩) 1 1, .slice none 0 0] 25))) := Lib.hid ((Below.refl _ _).alloc (by omega) _)
  have HW1 := Lib.hid hw1
  clear hw1 hs1
  go_enter Try.func8, Try.ntmps8
  go_wp2
  rw [HW1.out]
  go_loopw [15] (fun i wr => ∃ (k : Nat) (vN : Value), k ≤ n ∧ i = .int .i64 (k : Int) ∧ wr.heap[w.heap.size + 1]? = some (.cells #[vN, .slice (some ⟨w.heap.size, 0, none⟩) 1 1, .slice none 0 0] 25 (0, 0)) ∧ R2 wr (w.heap.size + 1) vN (chain n k) ∧ Below (w.heap.size + 1) w1 wr ∧ w.heap.size + 1 ≤ wr.heap.size) (fun i _ => n - (intOf i).toNat)
  case atStart => exact ⟨0, _, by omega, rfl, HG0.out, R2.nil _ _, HB2.out, by rw [size_al, HS1.out]; omega⟩
  case round =>
    obtain ⟨k, vN, hk, rfl, hG, hR2, hb, hsz⟩ := hrel
    obtain ⟨A8, c8, rfl, _, hnv⟩ := hR2.reads
    rw [chain_len] at hG hR2
    have HG := Lib.hid hG
    have HR2 := Lib.hid hR2
    have HB := Lib.hid hb
    obtain ⟨g0, g1, g2⟩ := Bx3_one hG
    have gf := blk_frozen hG 0
    have HNV := Lib.hid hnv
    clear hG hR2 hb HG0 HB2 hnv hm hs
    have hcl := chain_len n k
    by_cases hlt : k < n
    · have HCS := Lib.hid (chain_succ n k)
      have hbx := (Below.refl wr.heap.size wr).alloc (Nat.le_refl _) (.cells #[.int .i64 0, .slice none 0 0] 34)
      have HBX := Lib.hid hbx
      have HX0 : Hid ((wr.alloc (.cells #[.int .i64 0, .slice none 0 0] 34)).heap[wr.heap.size]? = some (.cells #[.int .i64 0, .slice none 0 0] 34 (0, 0))) := Lib.hid (heap_alloc_new wr _)
      have hgx := (hbx.block _ (blt HG.out)).trans HG.out
      obtain ⟨x0, x1, x2⟩ := Bx3_one hgx
      have xf := blk_frozen hgx 0
      have HGX := Lib.hid hgx
      have HRX := Lib.hid (HR2.out.below hbx)
      have HBW := Lib.hid (HB.out.trans (hbx.mono hsz))
      clear hbx hgx
      by_cases h1 : k + 1 < n
      · have e1 : cn n k = ⟨0, [⟨3, 0, 0, 0, ((k + 1 : Nat) : Int)⟩]⟩ := by unfold cn; rw [if_pos h1]
        rw [e1] at HCS
        have h1' : (k : Int) + 1 < (n : Int) := by omega
        have HRF := Lib.hid (ref_any ((k : Int) + 1) (wr.alloc (.cells #[.int .i64 0, .slice none 0 0] 34)))
        unfold agg5 at HRF
        dsimp only at HRF
        clear e1
        go_wp2_with fail
        refine HRF.out.mono ?_
        rintro e w2 ⟨rfl, hb2⟩
        have hx2 := (hb2.block _ (blt HX0.out)).trans HX0.out
        obtain ⟨y0, y1⟩ := two_cells hx2
        have yf := blk_frozen hx2 1
        have HX2 := Lib.hid hx2
        have HG2 := Lib.hid ((hb2.block _ (blt HGX.out)).trans HGX.out)
        have HR22 := Lib.hid (HRX.out.below hb2)
        have HB22 := Lib.hid (HBW.out.trans (hb2.mono (by rw [size_al]; omega)))
        have hs2 := hb2.size
        rw [size_al] at hs2
        obtain ⟨w3, hw3⟩ : ∃ w3, (w2.alloc (.cells #[.int .i64 3, .int .i64 0, .int .u64 0, .int .u64 0, .int .i64 ((k : Int) + 1)] 37)).setCell ⟨wr.heap.size, 1, none⟩ (.slice (some ⟨w2.heap.size, 0, none⟩) 1 1) = w3 := ⟨_, rfl⟩
        have hba := (Below.refl w2.heap.size w2).alloc (Nat.le_refl _) (.cells #[.int .i64 3, .int .i64 0, .int .u64 0, .int .u64 0, .int .i64 ((k : Int) + 1)] 37)
        have hxa := (hba.block _ (blt HX2.out)).trans HX2.out
        have hga := (hba.block _ (blt HG2.out)).trans HG2.out
        have HR5 : Hid (R5 (w2.alloc (.cells #[.int .i64 3, .int .i64 0, .int .u64 0, .int .u64 0, .int .i64 ((k : Int) + 1)] 37)) (w.heap.size + 1) (.slice (some ⟨w2.heap.size, 0, none⟩) 1 1) [⟨3, 0, 0, 0, (k : Int) + 1⟩]) := Lib.hid (r5_one w2 (w.heap.size + 1) (by omega) ⟨3, 0, 0, 0, (k : Int) + 1⟩)
        obtain ⟨u0, u1⟩ := two_cells hxa
        have uf := blk_frozen hxa 1
        have HX3 : Hid (w3.heap[wr.heap.size]? = some (.cells #[.int .i64 0, .slice (some ⟨w2.heap.size, 0, none⟩) 1 1] 34 (0, 0))) := Lib.hid (by rw [← hw3]; exact blk_set hxa 1 _)
        have HBw3 : Hid (Below wr.heap.size wr w3) := Lib.hid (by
          rw [← hw3]
          exact ((HBX.out.trans (hb2.mono (by rw [size_al]; omega))).trans (hba.mono (by omega))).trans (Tm.below_of_grown (grown_set _ _ _ _) (Nat.le_refl _) (by rw [size_al]; omega)))
        have HG3 : Hid (w3.heap[w.heap.size + 1]? = some (.cells #[.slice A8 k c8, .slice (some ⟨w.heap.size, 0, none⟩) 1 1, .slice none 0 0] 25 (0, 0))) := Lib.hid ((HBw3.out.block _ (blt HG.out)).trans HG.out)
        have HR53 : Hid (R5 w3 (w.heap.size + 1) (.slice (some ⟨w2.heap.size, 0, none⟩) 1 1) [⟨3, 0, 0, 0, (k : Int) + 1⟩]) := Lib.hid (by rw [← hw3]; exact Kd.R_set HR5.out hxa (by decide) 1 _)
        have HR23 : Hid (R2 w3 (w.heap.size + 1) (.slice A8 k c8) (chain n k)) := Lib.hid (HR2.out.below HBw3.out)
        have HB3 : Hid (Below (w.heap.size + 1) w1 w3) := Lib.hid (by
          rw [← hw3]
          exact (HB22.out.trans (hba.mono (by omega))).trans (Tm.below_of_grown (grown_set _ _ _ _) (by omega) (by rw [size_al]; omega)))
        obtain ⟨v0, v1⟩ := two_cells HX3.out
        obtain ⟨t0, t1, t2⟩ := Bx3_one HG3.out
        have tf := blk_frozen HG3.out 0
        have HMN := Lib.hid (node_M (x0 := 0) HR23.out HR53.out)
        have hs3 : w.heap.size + 1 ≤ w3.heap.size := by have := blt HG3.out; omega
        clear hx2 hba hxa hga
        go_wp2_with (at_builtin; refine Kd.R_append (P := Try.prog) k2 (w0 := w1) (W := w3) (w.heap.size + 1) rfl (.tmp 29) (.tmp 31) 22 34 zNd 32 rfl Try.underlying22 infoN rfl (by decide) (by decide) _ (chain n k) ⟨0, [⟨3, 0, 0, 0, (k : Int) + 1⟩]⟩ [.int .i64 0, .slice (some ⟨w2.heap.size, 0, none⟩) 1 1] (fun _ => True) (fun q => some q ≠ (Value.slice A8 k c8).ownBlock) rfl rfl HMN.out (fun q hq => ⟨trivial, hq⟩) (fun _ _ => trivial) HR23.out HB3.out hs3 ?c1 ?_)
        case c1 => first | omega | (rw [chain_len]; omega)
        intro v9 w9 hr9 hb9 hg9 hat9
        obtain ⟨A3, c3, rfl, _, _⟩ := Kd.R_reads hr9
        simp only [List.length_append, List.length_cons, List.length_nil, Nat.zero_add, chain_len] at hr9
        have hG9 := (hg9.block (w.heap.size + 1) (blt HG3.out) (fun e => R2.ne HR23.out HG3.out (by decide) e.symm)).trans HG3.out
        have o9 := (Bx3_one hG9).1
        have f9 := blk_frozen hG9 0
        have HR9 : Hid (R2 (w9.setCell ⟨w.heap.size + 1, 0, none⟩ (.slice A3 (k + 1) c3)) (w.heap.size + 1) (.slice A3 (k + 1) c3) (chain n (k + 1))) := Lib.hid (by rw [HCS.out]; exact Kd.R_set hr9 hG9 (by decide) 0 _)
        have HGF : Hid ((w9.setCell ⟨w.heap.size + 1, 0, none⟩ (.slice A3 (k + 1) c3)).heap[w.heap.size + 1]? = some (.cells #[.slice A3 (k + 1) c3, .slice (some ⟨w.heap.size, 0, none⟩) 1 1, .slice none 0 0] 25 (0, 0))) := Lib.hid (blk_set hG9 0 _)
        have HBF := Lib.hid (hb9.trans (Tm.below_of_grown (grown_set w9 (w.heap.size + 1) 0 (.slice A3 (k + 1) c3)) (Nat.le_refl _) (by have := blt hG9; omega)))
        have hsf : w.heap.size + 1 ≤ (w9.setCell ⟨w.heap.size + 1, 0, none⟩ (.slice A3 (k + 1) c3)).heap.size := by have := blt HGF.out; omega
        clear hr9 hb9 hg9 hat9 hG9 HMN
        go_wp2
        go_roundw
        case rel => exact ⟨k + 1, _, by omega, by go_num, HGF.out, HR9.out, HBF.out, hsf⟩
        case measure => simp [intOf]; omega
      · have e1 : cn n k = ⟨0, []⟩ := by unfold cn; rw [if_neg h1]
        rw [e1] at HCS
        have h1' : ¬ ((k : Int) + 1 < (n : Int)) := by omega
        have hs3 : w.heap.size + 1 ≤ (wr.alloc (.cells #[.int .i64 0, .slice none 0 0] 34)).heap.size := by rw [size_al]; omega
        obtain ⟨v0, v1⟩ := two_cells HX0.out
        have HMN := Lib.hid (node_M (x0 := 0) HRX.out (R5.nil (wr.alloc (.cells #[.int .i64 0, .slice none 0 0] 34)) (w.heap.size + 1)))
        clear e1
        go_wp2_with (at_builtin; refine Kd.R_append (P := Try.prog) k2 (w0 := w1) (W := wr.alloc (.cells #[.int .i64 0, .slice none 0 0] 34)) (w.heap.size + 1) rfl (.tmp 29) (.tmp 31) 22 34 zNd 32 rfl Try.underlying22 infoN rfl (by decide) (by decide) _ (chain n k) ⟨0, []⟩ [.int .i64 0, .slice none 0 0] (fun _ => True) (fun q => some q ≠ (Value.slice A8 k c8).ownBlock) rfl (by first | rfl | (rw [size_al]; rfl)) HMN.out (fun q hq => ⟨trivial, hq⟩) (fun _ _ => trivial) HRX.out HBW.out hs3 ?c1 ?_)
        case c1 => first | omega | (rw [chain_len]; omega)
        intro v9 w9 hr9 hb9 hg9 hat9
        obtain ⟨A3, c3, rfl, _, _⟩ := Kd.R_reads hr9
        simp only [List.length_append, List.length_cons, List.length_nil, Nat.zero_add, chain_len] at hr9
        have hG9 := (hg9.block (w.heap.size + 1) (blt HGX.out) (fun e => R2.ne HRX.out HGX.out (by decide) e.symm)).trans HGX.out
        have o9 := (Bx3_one hG9).1
        have f9 := blk_frozen hG9 0
        have HR9 : Hid (R2 (w9.setCell ⟨w.heap.size + 1, 0, none⟩ (.slice A3 (k + 1) c3)) (w.heap.size + 1) (.slice A3 (k + 1) c3) (chain n (k + 1))) := Lib.hid (by rw [HCS.out]; exact Kd.R_set hr9 hG9 (by decide) 0 _)
        have HGF : Hid ((w9.setCell ⟨w.heap.size + 1, 0, none⟩ (.slice A3 (k + 1) c3)).heap[w.heap.size + 1]? = some (.cells #[.slice A3 (k + 1) c3, .slice (some ⟨w.heap.size, 0, none⟩) 1 1, .slice none 0 0] 25 (0, 0))) := Lib.hid (blk_set hG9 0 _)
        have HBF := Lib.hid (hb9.trans (Tm.below_of_grown (grown_set w9 (w.heap.size + 1) 0 (.slice A3 (k + 1) c3)) (Nat.le_refl _) (by have := blt hG9; omega)))
        have hsf : w.heap.size + 1 ≤ (w9.setCell ⟨w.heap.size + 1, 0, none⟩ (.slice A3 (k + 1) c3)).heap.size := by have := blt HGF.out; omega
        clear hr9 hb9 hg9 hat9 hG9 HMN
        go_wp2
        go_roundw
        case rel => exact ⟨k + 1, _, by omega, by go_num, HGF.out, HR9.out, HBF.out, hsf⟩
        case measure => simp [intOf]; omega
    · obtain rfl : n = k := by omega
      have HBW := Lib.hid (HB1.out.trans (HB.out.mono (by omega)))
      have hr0 := (HB.out.block w.heap.size (by omega)).trans HR0.out
      have HGA : Hid (GAt wr (.agg #[.slice A8 n c8, .slice (some ⟨w.heap.size, 0, none⟩) 1 1, .slice none 0 0]) (cg n)) := Lib.hid (by
        obtain ⟨A', c', e, hl, hn⟩ := HR2.out.reads
        injection e with e1 e2 e3
        rw [chain_len] at hl
        refine ⟨A8, c8, some ⟨w.heap.size, 0, none⟩, 1, none, 0, ?_, ?_, Nat.le_refl _, Nat.le_refl _, HNV.out, ?_, fun i hi => by simp [cg] at hi⟩
        · show _ = Value.agg #[.slice A8 (chain n n).length c8, _, _]
          rw [chain_len]; rfl
        · show (chain n n).length ≤ c8
          rw [chain_len]; omega
        · intro i hi
          obtain rfl : i = 0 := by simp [cg] at hi; omega
          refine ⟨_, rfl, ?_⟩
          rw [show (Addr.mk w.heap.size 0 none).add 0 = ⟨w.heap.size, 0, none⟩ from rfl, cell_of_row wr w.heap.size _ _ 3 (0, 0) hr0]
          rfl)
      have HTR := Lib.hid (Tm.trim_any _ (cg n) wr HGA.out (sz_cg n))
      clear hr0
      by_cases h4 : 4096 < n
      · have HT0 : Hid (trimL (cg n) = ⟨[], [], []⟩) := Lib.hid (by unfold trimL; rw [not_cg n h4]; rfl)
        have HMY : Hid (∀ W, Below wr.heap.size wr W → Calls Try.prog 11 #[.agg #[.slice A8 n c8, .slice (some ⟨w.heap.size, 0, none⟩) 1 1, .slice none 0 0]] W (BoolPost false W)) := Lib.hid (fun W hW => by rw [← not_cg n h4]; exact may_any _ _ W (HGA.out.below hW) (sz_cg n))
        have HRC : Hid (∀ W, Below wr.heap.size wr W → Calls Try.prog 14 #[.agg #[.slice A8 n c8, .slice (some ⟨w.heap.size, 0, none⟩) 1 1, .slice none 0 0], .slice (some ⟨W.heap.size, 0, none⟩) 1 1] (W.alloc (.cells #[.int .i64 0] 3)) (Re.BPost (W.alloc (.cells #[.int .i64 0] 3)) [])) := Lib.hid (fun W hW => by
          have := Re.reach_any _ (cg n) (some ⟨W.heap.size, 0, none⟩) 1 [0] (W.alloc (.cells #[.int .i64 0] 3)) (HGA.out.below (hW.alloc hW.size _)) (sz_cg n) (fun i hi => by
            obtain rfl : i = 0 := by simp at hi; omega
            exact ⟨_, rfl, cell_one_new _ _ _ 0 _ rfl⟩) (by simp)
          have e : Re.reachR (cg n) [0] = [] := by unfold Re.reachR; rw [not_cg n h4]; rfl
          rw [e] at this
          exact this)
        go_wp2_with fail
        refine HTR.out.mono ?_
        rintro e w2 ⟨v2, rfl, hg2, hb2⟩
        rw [HT0.out] at hg2
        obtain ⟨TN, tN, TR, tR, TW, tW, rfl, _⟩ := hg2
        have HBA := Lib.hid (hb2.trans ((Below.refl w2.heap.size w2).alloc (Nat.le_refl _) (.cells #[.slice TN 0 tN, .slice TR 0 tR, .slice TW 0 tW] 25) |>.mono hb2.size))
        have hgb := (HBA.out.block _ (blt HG.out)).trans HG.out
        obtain ⟨x0, x1, x2⟩ := Bx3_one hgb
        have htb : (w2.alloc (.cells #[.slice TN 0 tN, .slice TR 0 tR, .slice TW 0 tW] 25)).heap[w2.heap.size]? = some (.cells #[.slice TN 0 tN, .slice TR 0 tR, .slice TW 0 tW] 25 (0, 0)) := heap_alloc_new w2 _
        have HGB := Lib.hid hgb
        have HTB := Lib.hid htb
        clear hb2 hgb htb
        go_wp2_with fail
        refine (HMY.out _ HBA.out).mono ?_
        rintro e w3 ⟨rfl, hb3⟩
        have HBC := Lib.hid (HBA.out.trans (hb3.mono HBA.out.size))
        have hgb := (hb3.block _ (blt HGB.out)).trans HGB.out
        have htb := (hb3.block _ (blt HTB.out)).trans HTB.out
        obtain ⟨y0, y1, y2⟩ := Bx3_one hgb
        obtain ⟨t0, t1, t2⟩ := Bx3_one htb
        clear hb3 hgb htb x0 x1 x2
        go_wp2_with fail
        refine (HRC.out _ HBC.out).mono ?_
        rintro e w4 ⟨A4, c4, rfl, _, _, hb4⟩
        have HBD := Lib.hid (HBC.out.trans (((Below.refl w3.heap.size w3).alloc (Nat.le_refl _) (.cells #[.int .i64 0] 3)).trans (hb4.mono (by rw [size_al]; omega)) |>.mono HBC.out.size))
        clear hb4
        go_wp2_with fail
        refine (Aw.awake_any _).mono ?_
        rintro e w5 ⟨rfl, hb5⟩
        have HBE := Lib.hid (HBW.out.trans ((HBD.out.trans (hb5.mono HBD.out.size)).mono HBW.out.size))
        clear hb5
        go_wp2
        go_ret
        exact ⟨rfl, HBE.out⟩
      · have HT0 : Hid (trimL (cg n) = cg n) := Lib.hid (trim_cg n (by omega) (by omega))
        have hmy := may_cg n (by omega) (by omega)
        have HMY : Hid (∀ W, Below wr.heap.size wr W → Calls Try.prog 11 #[.agg #[.slice A8 n c8, .slice (some ⟨w.heap.size, 0, none⟩) 1 1, .slice none 0 0]] W (BoolPost true W)) := Lib.hid (fun W hW => by rw [← hmy]; exact may_any _ _ W (HGA.out.below hW) (sz_cg n))
        have hal : Eq.alikeB (cg n) (cg n) = true := by unfold Eq.alikeB; rw [hmy, decide_eq_true rfl]; rfl
        have HAL : Hid (∀ W v, Below wr.heap.size wr W → GAt W v (cg n) → Calls Try.prog 18 #[.agg #[.slice A8 n c8, .slice (some ⟨w.heap.size, 0, none⟩) 1 1, .slice none 0 0], v] W (BoolPost true W)) := Lib.hid (fun W v hW hv => by rw [← hal]; exact Al.alike_any _ v _ _ W (HGA.out.below hW) hv (sz_cg n) (sz_cg n))
        clear hmy hal
        go_wp2_with fail
        refine HTR.out.mono ?_
        rintro e w2 ⟨v2, rfl, hg2, hb2⟩
        rw [HT0.out] at hg2
        obtain ⟨TN, tN, TR, tR, TW, tW, rfl, _⟩ := Al.ga_of hg2
        rw [cg_len] at hg2 ⊢
        have HBA := Lib.hid (hb2.trans ((Below.refl w2.heap.size w2).alloc (Nat.le_refl _) (.cells #[.slice TN n tN, .slice TR (cg n).rs.length tR, .slice TW (cg n).ws.length tW] 25) |>.mono hb2.size))
        have HGT := Lib.hid (hg2.below ((Below.refl w2.heap.size w2).alloc (Nat.le_refl _) (.cells #[.slice TN n tN, .slice TR (cg n).rs.length tR, .slice TW (cg n).ws.length tW] 25)))
        have hgb := (HBA.out.block _ (blt HG.out)).trans HG.out
        obtain ⟨x0, x1, x2⟩ := Bx3_one hgb
        have htb : (w2.alloc (.cells #[.slice TN n tN, .slice TR (cg n).rs.length tR, .slice TW (cg n).ws.length tW] 25)).heap[w2.heap.size]? = some (.cells #[.slice TN n tN, .slice TR (cg n).rs.length tR, .slice TW (cg n).ws.length tW] 25 (0, 0)) := heap_alloc_new w2 _
        have HGB := Lib.hid hgb
        have HTB := Lib.hid htb
        clear hb2 hgb htb hg2
        go_wp2_with fail
        refine (HMY.out _ HBA.out).mono ?_
        rintro e w3 ⟨rfl, hb3⟩
        have HBC := Lib.hid (HBA.out.trans (hb3.mono HBA.out.size))
        have HGU := Lib.hid (HGT.out.below hb3)
        have hgb := (hb3.block _ (blt HGB.out)).trans HGB.out
        have htb := (hb3.block _ (blt HTB.out)).trans HTB.out
        obtain ⟨y0, y1, y2⟩ := Bx3_one hgb
        obtain ⟨t0, t1, t2⟩ := Bx3_one htb
        clear hb3 hgb htb x0 x1 x2
        go_wp2_with fail
        refine (HAL.out _ _ HBC.out HGU.out).mono ?_
        rintro e w4 ⟨rfl, hb4⟩
        have HBD := Lib.hid (HBC.out.trans (hb4.mono HBC.out.size))
        clear hb4
        go_wp2_with fail
        refine (Aw.awake_any _).mono ?_
        rintro e w5 ⟨rfl, hb5⟩
        have HBE := Lib.hid (HBW.out.trans ((HBD.out.trans (hb5.mono HBD.out.size)).mono HBW.out.size))
        clear hb5
        go_wp2
        go_ret
        exact ⟨rfl, HBE.out⟩

theorem own : ownKnob Try.prog.godebug = none := by kernel_rfl
theorem laidOut : laidOutB Try.prog = true := by kernel_rfl
set_option maxRecDepth 100000 in
theorem lifted (os : Os) (started : os.Started) (H : Type) (enc : TypeId × Value → H) :
    ReturnsInHanded {} Try.checked os 8 .any (Rows.graphManySpec.pre6 enc Try.prog Try.f8 Rows.graphManyRow.domain false) (Rows.graphManySpec.post enc Try.prog Try.f8 false true false false) := by
  refine returnsInHanded_of_change (C := Try.checked) own started (by kernel_rfl) Try.func8
    (ChangeSpec.witness6 (enc := enc) (C := Try.checked) false ⟨#[], #[.int .i64 0], []⟩ 8 (by kernel_rfl) (by kernel_rfl) (by kernel_rfl) (by kernel_rfl)) ?_
  intro W base args ds gs before hval0 hW hcnd _
  have hval : ∀ (j : Nat) t v, Try.f8.params[j]? = some t → args[j]? = some v → Value.okWide Try.prog W .any base t v := hval0
  have hW' := hW
  obtain ⟨p, q, hA0, hV, rfl, hfz, hnd⟩ := hW
  have hA : DataW.TrodAll enc Try.prog W 0 (fun _ => true) true Try.f8.params.toList args.toList ds p := hA0
  rw [Try.params8] at hA hval
  obtain ⟨v0, vs0, d0, ds0, p0, q0, hargs, rfl, rfl, h0, r0⟩ := trodAll_cons hA
  obtain ⟨rfl, rfl, rfl⟩ := trodAll_nil r0
  obtain rfl : args = #[v0] := by cases args; simp_all
  obtain ⟨rfl, rfl⟩ := trodVars_none hV
  obtain ⟨a0, rfl, rfl, rfl, w0⟩ := open_int Try.underlying3 (hval 0 3 v0 rfl rfl) h0
  clear hA0 hval0
  refine (walk W a0 w0).mono fun e W' ⟨he, bel⟩ => ?_
  subst he
  exact ⟨_, rfl, _, _, _, [], _, [], hW', trodAll_mk1 (shut_bool Try.underlying4 _), (trodAll_cons_mk (shut_int Try.underlying3 w0) trodAll_mk0), rfl, bel.frame _, fun h => by cases h⟩
theorem over : Rows.graphManyRow.holds Try.pinned (OpenSpec.ofChange Rows.graphManySpec) :=
  OpenClaim.holds_of_wide 8 Try.f8 rfl rfl rfl rfl rfl rfl rfl ⟨rfl, rfl, rfl, rfl, rfl⟩ rfl rfl rfl rfl rfl (by kernel_rfl) Try.func8 (by kernel_rfl)
    (of_decide_eq_true (by kernel_rfl)) (by unfold Func.isWrapper; first | (rw [if_pos (by decide +kernel)]; kernel_rfl) | (rw [if_neg (by decide +kernel)]; exact ⟨rfl, rfl⟩))
    (fun os started H enc _ => lifted os started H enc)
theorem proved : Rows.GraphManySaid := over
#print axioms proved
end Go.Proofs.Ytdgclpgjoanimaa.graphMany
