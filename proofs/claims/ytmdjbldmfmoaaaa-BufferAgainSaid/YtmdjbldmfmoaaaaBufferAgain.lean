/-
  The same writes put once more change nothing; behind Clear there are none, and they come as at first; conditions: those of the statement.
-/
import Derived.Test.YtmdjbldmfmoaaaaRows
import Derived.WalkKit
import Derived.WalkSpells
import Derived.WalkLawsBesides
import Derived.WalkMore
import Derived.ProofKit
import Derived.OpenShut
import Derived.ShutString
import Derived.ChangeOld
import Derived.Below
import Derived.SizedLaws
import Derived.Lib.Hide
import Derived.Test.YtmdjbldmfmoaaaaOpen
import Derived.Test.YtmdjbldmfmoaaaaBs
namespace Go.Proofs.Ytmdjbldmfmoaaaa.bufferAgain
open Go.RowKit Go.ChangeShapes Go.WideShapes Go.ChangeAt Go.Proofs.YtmdjbldmfmoaaaaW.PrintWords
set_option linter.unusedVariables false
open Ba Bu Bw Bl Bn Bs
theorem cut50 (A0 : Option Addr) (c0 : Nat) (x : List W8) (hc : x.length ≤ c0) (w : World) (h : Kd.C k8 w A0 x.length x) (hl : 50 < x.length) :
    ∃ L : List W8, L.length ≤ 50 ∧ Kd.C k8 w A0 L.length L ∧ ∀ W : World, (Instr.slice 32 (.slice A0 x.length c0) none (some (.int .i64 50)) none).run Try.prog W = .ok (.slice A0 L.length c0) W := by
  obtain ⟨i, hi, _⟩ := Option.map_eq_some_iff.1 infoW8
  have hlen : (x.take 50).length = 50 := by rw [List.length_take]; omega
  refine ⟨x.take 50, by omega, Kd.C_take h (by omega), fun W => ?_⟩
  have := cut_to (P := Try.prog) 32 31 .i64 Try.underlying32 hi A0 x.length c0 50 (by omega) (by omega) hc W
  rw [this, hlen]
  rfl
theorem info25 : (Try.prog.info? 25).map (fun i => (i.zero, i.size, i.bytes)) = some (some (.int .i64 0), 1, 8) := by kernel_rfl
def eL (E : Nat → Int) (n : Nat) : List Int := (List.range n).map E
theorem eL_len (E : Nat → Int) (n : Nat) : (eL E n).length = n := by simp [eL]
theorem eL_snoc (E : Nat → Int) (n : Nat) : eL E (n + 1) = eL E n ++ [E n] := by simp [eL, List.range_succ]
theorem eL_get (E : Nat → Int) (n i : Nat) (h : i < n) : (eL E n).getD i 0 = E i := by simp [eL, h]
/-- What the walk carries: the buffer, the answers, a row of writes apart. -/
structure Ag (w wr : World) (v ve va : Value) (l : List W8) (n : Nat) (E : Nat → Int) (P : List W8) : Prop where
  f : Bf wr w.heap.size w.heap.size v l
  e : wr.ownsRow w.heap.size 25 1 ve n ((eL E n).map (Value.int .i64))
  a : R8 wr w.heap.size va P
  ne : ∀ k, va.ownBlock = some k → v.ownBlock ≠ some k
  b : Below w.heap.size w wr
theorem e_ne {W : World} {B B' g n : Nat} {v ve : Value} {l : List W8} {xs : List Value} (he : W.ownsRow B' 25 1 ve n xs) (hf : Bf W B g v l) : ve.ownBlock ≠ some g ∧ ∀ k, ve.ownBlock = some k → v.ownBlock ≠ some k := by
  refine ⟨fun e => ?_, fun k hk e => ?_⟩
  · obtain ⟨cs, hc⟩ := own_typed he g e
    have h := hf.1
    rw [hc] at h
    injection h with h
    injection h with _ h
    cases h
  · obtain ⟨cs, hc⟩ := own_typed he k hk
    obtain ⟨inner, ho⟩ := Kd.R_own hf.2.1
    obtain ⟨cs', hc'⟩ := own_typed ho k e
    rw [hc] at hc'
    injection hc' with h
    injection h with _ h
    cases h
theorem e_ne8 {W : World} {B B' n : Nat} {v ve : Value} {l : List W8} {xs : List Value} (he : W.ownsRow B' 25 1 ve n xs) (hr : R8 W B v l) : ∀ k, ve.ownBlock = some k → v.ownBlock ≠ some k := by
  intro k hk e
  obtain ⟨cs, hc⟩ := own_typed he k hk
  obtain ⟨inner, ho⟩ := Kd.R_own hr
  obtain ⟨cs', hc'⟩ := own_typed ho k e
  rw [hc] at hc'
  injection hc' with h
  injection h with _ h
  cases h
theorem r_ne {W : World} {B B' g : Nat} {v va : Value} {l P : List W8} (hr : R8 W B' va P) (hf : Bf W B g v l) : va.ownBlock ≠ some g := by
  intro e
  obtain ⟨inner, ho⟩ := Kd.R_own hr
  obtain ⟨cs, hc⟩ := own_typed ho g e
  have h := hf.1
  rw [hc] at h
  injection h with h
  injection h with _ h
  cases h
theorem own_belowE {w w1 : World} {base n : Nat} {v : Value} {xs : List Value} (h : w.ownsRow base 25 1 v n xs) (hb : Below w.heap.size w w1) : w1.ownsRow base 25 1 v n xs :=
  own_move h fun k hk => hb.block k (h.lt k hk).2
section
variable {w wr w' : World} {v ve va v' : Value} {l l' P : List W8} {n : Nat} {E : Nat → Int}
theorem Ag.later (h : Ag w wr v ve va l n E P) (hb : Below wr.heap.size wr w') : Ag w w' v ve va l n E P :=
  ⟨h.f.later hb, own_belowE h.e hb, h.a.below hb, h.ne, h.b.trans (hb.mono h.b.size)⟩
theorem Ag.put (h : Ag w wr v ve va l n E P) (hf : Bf w' w.heap.size w.heap.size v' l') (hk : Kp wr w' w.heap.size v) (hat : v'.ownBlock = v.ownBlock ∨ ∃ b, v'.ownBlock = some b ∧ wr.heap.size ≤ b) : Ag w w' v' ve va l' n E P := by
  have h1 := e_ne h.e h.f
  have h2 := r_ne h.a h.f
  refine ⟨hf, own_move h.e fun k hk' => hk.block k (h.e.lt k hk').2 (fun e => h1.1 (by rw [hk', e])) (h1.2 k hk'), R8.move h.a fun k hk' => hk.block k (h.a.lt k hk').2 (fun e => h2 (by rw [hk', e])) (h.ne k hk'), fun k hk' e => ?_, h.b.trans (hk.below h.f)⟩
  rcases hat with hat | ⟨b, hat, hle⟩
  · exact h.ne k hk' (by rw [← hat]; exact e)
  · rw [hat] at e
    injection e with e
    have := (h.a.lt k hk').2
    omega
theorem Ag.errs (h : Ag w wr v ve va l n E P) {ve' : Value} (he : w'.ownsRow w.heap.size 25 1 ve' (n + 1) ((eL E (n + 1)).map (Value.int .i64))) (hg : wr.grownBy w' ve.ownBlock) (hb : Below w.heap.size w w') : Ag w w' v ve' va l (n + 1) E P := by
  have h1 := e_ne h.e h.f
  refine ⟨⟨(hg.block _ h.f.lt (fun e => h1.1 e.symm)).trans h.f.1, R8.move h.f.2.1 fun k hk => hg.block k (h.f.2.1.lt k hk).2 (fun e => h1.2 k e.symm hk), h.f.2.2⟩, he, R8.move h.a fun k hk => hg.block k (h.a.lt k hk).2 (fun e => e_ne8 h.e h.a k e.symm hk), h.ne, hb⟩
theorem Ag.all (h : Ag w wr v ve va l n E P) {va' : Value} {P' : List W8} (hr : R8 w' wr.heap.size va' P') (hb : Below wr.heap.size wr w') : Ag w w' v ve va' l n E P' :=
  ⟨h.f.later hb, own_belowE h.e hb, hr.lower h.b.size, fun k hk e => by have := (hr.lt k hk).1; have := (h.f.2.1.lt k e).2; omega, h.b.trans (hb.mono h.b.size)⟩
end
theorem ag_clear {w wr w' : World} {v ve va : Value} {l P : List W8} {n : Nat} {E : Nat → Int} (h : Ag w wr v ve va l n E P) (hf : Bf w' w.heap.size w.heap.size (.slice none 0 0) []) (hk : Kp wr w' w.heap.size v) : Ag w w' (.slice none 0 0) ve va [] n E P := by
  have h1 := e_ne h.e h.f
  have h2 := r_ne h.a h.f
  exact ⟨hf, own_move h.e fun k hk' => hk.block k (h.e.lt k hk').2 (fun e => h1.1 (by rw [hk', e])) (h1.2 k hk'), R8.move h.a fun k hk' => hk.block k (h.a.lt k hk').2 (fun e => h2 (by rw [hk', e])) (h.ne k hk'), fun k _ e => by simp [Value.ownBlock] at e, h.b.trans (hk.below h.f)⟩
theorem ag_new {E : Nat → Int} (w : World) : Ag w (w.alloc (.cells #[.slice none 0 0] 54)) (.slice none 0 0) (.slice none 0 0) (.slice none 0 0) [] 0 E [] :=
  ⟨bf_new w, World.ownsRow_nil _ _ _ _, R8.nil _ _, fun k hk => by simp [Value.ownBlock] at hk, (Below.refl _ _).alloc (Nat.le_refl _) _⟩
theorem e_rd {w : World} {base n : Nat} {v : Value} {E : Nat → Int} (h : w.ownsRow base 25 1 v n ((eL E n).map (Value.int .i64))) (i : Nat) (hi : i < n) : ∃ ad c, v = .slice (some ad) n c ∧ w.cell? (ad.add i) = some (.int .i64 (E i)) := by
  rcases h.2 with ⟨rfl, h0⟩ | ⟨g, cap, cur, rfl, _, _, _⟩
  · omega
  · refine ⟨_, _, rfl, ?_⟩
    refine h.cells rfl i _ ?_
    rw [List.getElem?_map, List.getElem?_eq_getElem (by rw [eL_len]; exact hi)]
    have := eL_get E n i hi
    rw [List.getD_eq_getElem?_getD, List.getElem?_eq_getElem (by rw [eL_len]; exact hi)] at this
    simp only [Option.getD_some] at this
    rw [Option.map_some, this]
theorem e_at {w : World} {base n c : Nat} {ad : Addr} {E : Nat → Int} (h : w.ownsRow base 25 1 (.slice (some ad) n c) n ((eL E n).map (Value.int .i64))) {i : Nat} (hi : i < n) {y : Int} (hy : E i = y) : w.cell? (ad.add i) = some (.int .i64 y) := by
  obtain ⟨ad', c', e, hc⟩ := e_rd h i hi
  injection e with e _ _
  injection e with e
  rw [e, hc, hy]
def E0 (L : List W8) (k : Nat) : Int := putE (pl (L.take k)) (L.getD k z8)
set_option maxHeartbeats 16000000 in
set_option maxRecDepth 20000 in
theorem walk (w : World) (A0 : Option Addr) (c0 : Nat) (x0 : List Ba.W8) (hc0 : x0.length ≤ c0) (hr0 : Kd.C Ba.k8 w A0 x0.length x0) (ok0 : x0.length ≤ maxLen ∧ ∀ y ∈ x0, Ba.ok8 y) :
    Calls Try.prog 4 #[.slice A0 x0.length c0] w fun e w' => e = .returned (.bool true) ∧ Below w.heap.size w w' := by
  clear ok0
  have hm0 := Kd.C_max hr0
  have hcase : (x0.length ≤ 50 ∧ ∃ L : List W8, L = x0) ∨ (50 < x0.length ∧ ∃ L : List W8, L.length ≤ 50 ∧ Kd.C k8 w A0 L.length L ∧ ∀ W : World, (Instr.slice 32 (.slice A0 x0.length c0) none (some (.int .i64 50)) none).run Try.prog W = .ok (.slice A0 L.length c0) W) := by
    by_cases h : 50 < x0.length
    · exact .inr ⟨h, cut50 A0 c0 x0 hc0 w hr0 h⟩
    · exact .inl ⟨by omega, x0, rfl⟩
  rcases hcase with ⟨hl2, L, rfl⟩ | ⟨hl, L, hl2, hC, hsl⟩
  · have HC := Lib.hid hr0
    clear hr0
    have HA := Lib.hid (ag_new (E := E0 L) w)
    go_enter Try.func4, Try.ntmps4
    go_wp2_with fail
    refine (new_any _).mono ?_
    rintro e w1 ⟨rfl, rfl⟩
    go_wp2
    go_loopw [4, 20] (fun ve i wr => ∃ (k : Nat) (v : Value), k ≤ L.length ∧ i = .int .i64 (k : Int) ∧ Ag w wr v ve (.slice none 0 0) (pl (L.take k)) k (E0 L) []) (fun _ i _ => L.length - (intOf i).toNat)
    case atStart => exact ⟨0, _, by omega, rfl, HA.out⟩
    case round =>
      obtain ⟨k, v, hk, rfl, ha⟩ := hrel
      have hbw := ha.b
      by_cases hlt : k < L.length
      · obtain ⟨ad, rfl, hc⟩ := at_W8 (Kd.C_below HC.out hbw) k hlt
        have HS := Lib.hid (show pl (L.take (k + 1)) = putL (pl (L.take k)) (L.getD k z8) by rw [take_snoc L z8 k hlt, pl_snoc])
        have HE := Lib.hid (show putE (pl (L.take k)) (L.getD k z8) = E0 L k from rfl)
        obtain ⟨x, hx⟩ : ∃ x, L.getD k z8 = x := ⟨_, rfl⟩
        rw [hx] at hc HS HE
        clear hx
        obtain ⟨q0, q1, q2, q3, q4, q5, q6, q7⟩ := hc
        obtain ⟨g0, g1, g2, ⟨g3, g4, g5, g6, g7⟩⟩ := x
        dsimp only at q0 q1 q2 q3 q4 q5 q6 q7
        have HA1 := Lib.hid (ha.later ((Below.refl wr.heap.size wr).alloc (Nat.le_refl _) (.cells #[.int .i64 g0, .int .i64 g1, .int .i64 g2, .int .i64 g3, .int .i64 g4, .int .u64 g5, .int .u64 g6, .int .i64 g7] 31)))
        clear ha hbw
        go_wp2_with fail
        refine (put_any w.heap.size w.heap.size v _ ⟨g0, g1, g2, ⟨g3, g4, g5, g6, g7⟩⟩ _ HA1.out.f).mono ?_
        rintro e w2 ⟨rfl, v2, hf2, hk2, hat2⟩
        have ha2 := HA1.out.put hf2 hk2 hat2
        rw [← HS.out] at ha2
        rw [HE.out]
        have HA2 := Lib.hid ha2
        have hb2 := ha2.b
        have hb2s := hb2.size
        have HSN := Lib.hid (eL_snoc (E0 L) k)
        have HEO : Hid (w2.ownsRow w.heap.size 25 1 _ (eL (E0 L) k).length (nums .i64 (eL (E0 L) k))) := Lib.hid (by rw [eL_len]; exact ha2.e)
        have hel := eL_len (E0 L) k
        have HEL := Lib.hid hel
        obtain ⟨M, hM⟩ : ∃ M, eL (E0 L) k = M := ⟨_, rfl⟩
        rw [hM] at HEO HSN HEL hel
        have hMl : M.length ≤ 50 := by omega
        clear HA1 hf2 hk2 hat2 ha2 hM hel
        go_wp2_with (at_builtin; refine print_append_num (P := Try.prog) (w0 := w) (W := w2) w.heap.size rfl (.tmp 24) (.tmp 28) 37 25 .i64 8 rfl Try.underlying37 info25 (by omega) _ M (E0 L k) rfl rfl HEO.out hb2 hb2s ?ca1 ?_)
        case ca1 => omega
        intro v3 w3 ho3 hb3 hg3 _
        rw [← HSN.out, HEL.out] at ho3
        have HA3 := Lib.hid (HA2.out.errs ho3 hg3 hb3)
        clear ho3 hb3 hg3
        go_wp2
        go_roundw
        case rel => exact ⟨k + 1, v2, by omega, by go_num, HA3.out⟩
        case measure => simp [intOf]; omega
      · obtain rfl : k = L.length := by omega
        rw [List.take_length] at ha
        have HA1 := Lib.hid ha
        have HN := Lib.hid (nm_pl L)
        have hpl := pl_len L
        obtain ⟨P, hP⟩ : ∃ P, pl L = P := ⟨_, rfl⟩
        rw [hP] at HA1 HN hpl
        have HP := Lib.hid hP
        clear ha hP HA hbw
        go_wp2_with fail
        refine (all_any w.heap.size w.heap.size v P _ HA1.out.f).mono ?_
        rintro e w2 ⟨va, rfl, hr2, hb2⟩
        have HA2 := Lib.hid (HA1.out.all hr2 hb2)
        obtain ⟨Aa, ca, rfl, _, _⟩ := hr2.reads
        clear hr2 hb2 HA1
        go_wp2
        go_loopw [35] (fun i wr => ∃ (k : Nat) (v : Value), k ≤ P.length ∧ i = .int .i64 (k : Int) ∧ Ag w wr v u4 (.slice Aa P.length ca) P L.length (E0 L) P) (fun i _ => P.length - (intOf i).toNat)
        case atStart => exact ⟨0, _, by omega, rfl, HA2.out⟩
        case round =>
          obtain ⟨k, v, hk, rfl, ha⟩ := hrel
          by_cases hlk : k < P.length
          · obtain ⟨ad, rfl, hc⟩ := at_W8 (Kd.R_reads' ha.a).2.2 k hlk
            have HG := Lib.hid (nm_again HN.out hlk)
            obtain ⟨x, hx⟩ : ∃ x, P.getD k z8 = x := ⟨_, rfl⟩
            rw [hx] at hc HG
            clear hx
            obtain ⟨q0, q1, q2, q3, q4, q5, q6, q7⟩ := hc
            obtain ⟨g0, g1, g2, ⟨g3, g4, g5, g6, g7⟩⟩ := x
            dsimp only at q0 q1 q2 q3 q4 q5 q6 q7
            have HA3 := Lib.hid (ha.later ((Below.refl wr.heap.size wr).alloc (Nat.le_refl _) (.cells #[.int .i64 g0, .int .i64 g1, .int .i64 g2, .int .i64 g3, .int .i64 g4, .int .u64 g5, .int .u64 g6, .int .i64 g7] 31)))
            clear ha
            go_wp2_with fail
            refine (put_any w.heap.size w.heap.size v _ ⟨g0, g1, g2, ⟨g3, g4, g5, g6, g7⟩⟩ _ HA3.out.f).mono ?_
            rintro e w3 ⟨rfl, v3, hf3, hk3, hat3⟩
            have ha3 := HA3.out.put hf3 hk3 hat3
            rw [HG.out.1] at ha3
            rw [HG.out.2]
            have HA4 := Lib.hid ha3
            clear hf3 hk3 hat3 ha3 HA3
            go_wp2
            go_roundw
            case rel => exact ⟨k + 1, v3, by omega, by go_num, HA4.out⟩
            case measure => simp [intOf]; omega
          · obtain rfl : k = P.length := by omega
            have HA3 := Lib.hid ha
            obtain ⟨wq, rfl⟩ : ∃ wq : World, wq = wr := ⟨_, rfl⟩
            clear ha HA2
            go_wp2_with fail
            refine (all_any w.heap.size w.heap.size v P _ HA3.out.f).mono ?_
            rintro e w4 ⟨vb, rfl, hr4, hb4⟩
            have HA4 := Lib.hid (HA3.out.later hb4)
            obtain ⟨Ab, cb, rfl, _, hC4⟩ := hr4.reads
            have HC4 := Lib.hid hC4
            have HKD := Lib.hid (fun x (hx : x ∈ P) => may_kd (HN.out.1 x hx).1)
            clear hr4 hb4 hC4 HA3
            go_wp2_with fail
            refine (sw_refl P Ab Aa cb ca w4 HC4.out (Kd.R_reads' HA4.out.a).2.2 (by omega) HKD.out).mono ?_
            rintro e w5 ⟨rfl, hb5⟩
            have HA5 := Lib.hid (HA4.out.later hb5)
            clear hb5 HA4 HC4
            go_wp2_with fail
            refine (len_any w.heap.size w.heap.size v P w5 HA5.out.f).mono ?_
            rintro e w6 ⟨rfl, hb6⟩
            have HA6 := Lib.hid (HA5.out.later hb6)
            clear hb6 HA5
            have cne : ∀ z : Int, (z != z) = false := fun z => by rw [bne_eq_false_iff_eq]
            go_wp2_with fail
            refine (clear_any w.heap.size w.heap.size v P w6 HA6.out.f).mono ?_
            rintro e w7 ⟨rfl, hf7, hk7⟩
            have HA7 := Lib.hid (ag_clear HA6.out hf7 hk7)
            clear hf7 hk7 HA6
            go_wp2_with fail
            refine (len_any w.heap.size w.heap.size _ _ w7 HA7.out.f).mono ?_
            rintro e w8 ⟨rfl, hb8⟩
            have HA8 := Lib.hid (HA7.out.later hb8)
            clear hb8 HA7
            go_wp2_with fail
            refine (all_any w.heap.size w.heap.size _ _ w8 HA8.out.f).mono ?_
            rintro e w9 ⟨vc, rfl, hr9, hb9⟩
            have hr9 : R8 w9 w8.heap.size vc [] := hr9
            have HA9 := Lib.hid (HA8.out.later hb9)
            obtain ⟨Ac, cc, rfl, _, _⟩ := hr9.reads
            clear hr9 hb9 HA8
            go_wp2_with fail
            refine (refs_any w.heap.size w.heap.size _ _ w9 HA9.out.f).mono ?_
            rintro e w10 ⟨vd, rfl, ho10, hb10⟩
            have HA10 := Lib.hid (HA9.out.later hb10)
            rw [show refsAll [] = [] from rfl] at ho10
            obtain ⟨_, Ad, cd, rfl, _⟩ := own_rd ho10
            clear ho10 hb10 HA9
            have HAs : Hid (Ag w w10 (.slice none 0 0) u4 (.slice Aa P.length ca) (pl (L.take 0)) L.length (E0 L) P) := Lib.hid HA10.out
            clear HA10
            go_wp2
            go_loopw [75] (fun i wr => ∃ (k : Nat) (v : Value), k ≤ L.length ∧ i = .int .i64 (k : Int) ∧ Ag w wr v u4 (.slice Aa P.length ca) (pl (L.take k)) L.length (E0 L) P) (fun i _ => L.length - (intOf i).toNat)
            case atStart => exact ⟨0, _, by omega, rfl, HAs.out⟩
            case round =>
              obtain ⟨k, v, hk, rfl, ha⟩ := hrel
              have hbw := ha.b
              by_cases hlt : k < L.length
              · obtain ⟨ad, rfl, hc⟩ := at_W8 (Kd.C_below HC.out hbw) k hlt
                have HS := Lib.hid (show pl (L.take (k + 1)) = putL (pl (L.take k)) (L.getD k z8) by rw [take_snoc L z8 k hlt, pl_snoc])
                have HE := Lib.hid (show putE (pl (L.take k)) (L.getD k z8) = E0 L k from rfl)
                obtain ⟨x, hx⟩ : ∃ x, L.getD k z8 = x := ⟨_, rfl⟩
                rw [hx] at hc HS HE
                clear hx
                obtain ⟨q0, q1, q2, q3, q4, q5, q6, q7⟩ := hc
                obtain ⟨g0, g1, g2, ⟨g3, g4, g5, g6, g7⟩⟩ := x
                dsimp only at q0 q1 q2 q3 q4 q5 q6 q7
                have HA11 := Lib.hid (ha.later ((Below.refl wr.heap.size wr).alloc (Nat.le_refl _) (.cells #[.int .i64 g0, .int .i64 g1, .int .i64 g2, .int .i64 g3, .int .i64 g4, .int .u64 g5, .int .u64 g6, .int .i64 g7] 31)))
                have HA12 := Lib.hid (HA11.out.later (Below.refl (wr.alloc (.cells #[.int .i64 g0, .int .i64 g1, .int .i64 g2, .int .i64 g3, .int .i64 g4, .int .u64 g5, .int .u64 g6, .int .i64 g7] 31)).heap.size (wr.alloc (.cells #[.int .i64 g0, .int .i64 g1, .int .i64 g2, .int .i64 g3, .int .i64 g4, .int .u64 g5, .int .u64 g6, .int .i64 g7] 31))).drew)
                have HX : Hid (Bx8 (wr.alloc (.cells #[.int .i64 g0, .int .i64 g1, .int .i64 g2, .int .i64 g3, .int .i64 g4, .int .u64 g5, .int .u64 g6, .int .i64 g7] 31)).drew wr.heap.size ⟨g0, g1, g2, ⟨g3, g4, g5, g6, g7⟩⟩) := Lib.hid (heap_alloc_new wr _)
                obtain ⟨ade, ce, rfl, hce⟩ := e_rd HA11.out.e k hlt
                have HVL := Lib.hid (fun e (he : v.ownBlock = some e) => show e ≠ wr.heap.size from fun h => by have := (ha.f.2.1.lt e he).2; omega)
                have HGL := Lib.hid (show wr.heap.size ≠ w.heap.size from fun h => by have := ha.f.lt; omega)
                obtain ⟨y, hy⟩ : ∃ y, E0 L k = y := ⟨_, rfl⟩
                have HY := Lib.hid hy
                rw [hy] at hce HE
                have i0 : (0 : Int) ≤ (k : Int) := by omega
                have i1 : (k : Int) < (L.length : Int) := by omega
                obtain ⟨b0, b1, b2, b3, b4, b5, b6, b7⟩ := Bx8.cells (show Bx8 (wr.alloc (.cells #[.int .i64 g0, .int .i64 g1, .int .i64 g2, .int .i64 g3, .int .i64 g4, .int .u64 g5, .int .u64 g6, .int .i64 g7] 31)) wr.heap.size ⟨g0, g1, g2, ⟨g3, g4, g5, g6, g7⟩⟩ from heap_alloc_new wr _)
                have HBX := Lib.hid (And.intro b0 (And.intro b1 (And.intro b2 (And.intro b3 (And.intro b4 (And.intro b5 (And.intro b6 b7)))))))
                clear ha hbw hy b0 b1 b2 b3 b4 b5 b6 b7
                go_wp2
                go_region_held3 (fun w' => w'.cell? ⟨wr.heap.size, 0, none⟩ = some (.int .i64 g0) ∧ w'.cell? ⟨wr.heap.size, 1, none⟩ = some (.int .i64 g1) ∧ w'.cell? ⟨wr.heap.size, 2, none⟩ = some (.int .i64 g2) ∧ w'.cell? ⟨wr.heap.size, 3, none⟩ = some (.int .i64 g3) ∧ w'.cell? ⟨wr.heap.size, 4, none⟩ = some (.int .i64 g4) ∧ w'.cell? ⟨wr.heap.size, 5, none⟩ = some (.int .u64 g5) ∧ w'.cell? ⟨wr.heap.size, 6, none⟩ = some (.int .u64 g6) ∧ w'.cell? ⟨wr.heap.size, 7, none⟩ = some (.int .i64 g7) ∧ w'.cell? (ade.add k) = some (.int .i64 y))
                  (first | go_keep | (refine ⟨?_, ?_, ?_, ?_, ?_, ?_, ?_, ?_, ?_⟩ <;> assumption))
                  (first
                    | (go_at_call 10; refine (put_any w.heap.size w.heap.size v _ ⟨g0, g1, g2, ⟨g3, g4, g5, g6, g7⟩⟩ _ HA12.out.f).mono ?_; rintro e w2 ⟨rfl, v2, hf2, hk2, hat2⟩; rw [HE.out]; have ha2 := HA12.out.put hf2 hk2 hat2; have te := e_at ha2.e hlt HY.out; obtain ⟨t0, t1, t2, t3, t4, t5, t6, t7⟩ := Bx8.cells ((hk2.block wr.heap.size (Array.getElem?_eq_some_iff.1 HX.out).1 HGL.out (fun e => HVL.out _ e rfl)).trans HX.out); have HA13 := Lib.hid ha2; clear ha2 hf2 hk2 hat2))
                rw [← HS.out] at HA13
                clear te t0 t1 t2 t3 t4 t5 t6 t7 HA11 HA12 HX HBX
                go_wp2
                go_roundw
                case rel => exact ⟨k + 1, v2, by omega, by go_num, HA13.out⟩
                case measure => simp [intOf]; omega
              · obtain rfl : k = L.length := by omega
                rw [List.take_length, HP.out] at ha
                have HA11 := Lib.hid ha
                obtain ⟨wq, rfl⟩ : ∃ wq : World, wq = wr := ⟨_, rfl⟩
                clear ha hbw HAs
                go_wp2_with fail
                refine (all_any w.heap.size w.heap.size v P _ HA11.out.f).mono ?_
                rintro e w12 ⟨vb, rfl, hr4, hb4⟩
                have HA12 := Lib.hid (HA11.out.later hb4)
                obtain ⟨Ae, cee, rfl, _, hC4⟩ := hr4.reads
                have HC4 := Lib.hid hC4
                clear hr4 hb4 hC4 HA11
                go_wp2_with fail
                refine (sw_refl P Ae Aa cee ca w12 HC4.out (Kd.R_reads' HA12.out.a).2.2 (by omega) HKD.out).mono ?_
                rintro e w13 ⟨rfl, hb5⟩
                have HB13 := Lib.hid (HA12.out.later hb5).b
                clear hb5 HA12 HC4
                go_wp2_with fail
                refine (awake_any _).mono ?_
                rintro e w14 ⟨rfl, hb14⟩
                have hbf := HB13.out.trans (hb14.mono HB13.out.size)
                clear hb14
                go_wp2
                go_ret
                exact ⟨rfl, hbf⟩

  · have HC := Lib.hid hC
    clear hr0 hC
    have HA := Lib.hid (ag_new (E := E0 L) w)
    go_enter Try.func4, Try.ntmps4
    go_wp2_with fail
    refine (new_any _).mono ?_
    rintro e w1 ⟨rfl, rfl⟩
    go_wp2
    go_loopw [4, 20] (fun ve i wr => ∃ (k : Nat) (v : Value), k ≤ L.length ∧ i = .int .i64 (k : Int) ∧ Ag w wr v ve (.slice none 0 0) (pl (L.take k)) k (E0 L) []) (fun _ i _ => L.length - (intOf i).toNat)
    case atStart => exact ⟨0, _, by omega, rfl, HA.out⟩
    case round =>
      obtain ⟨k, v, hk, rfl, ha⟩ := hrel
      have hbw := ha.b
      by_cases hlt : k < L.length
      · obtain ⟨ad, rfl, hc⟩ := at_W8 (Kd.C_below HC.out hbw) k hlt
        have HS := Lib.hid (show pl (L.take (k + 1)) = putL (pl (L.take k)) (L.getD k z8) by rw [take_snoc L z8 k hlt, pl_snoc])
        have HE := Lib.hid (show putE (pl (L.take k)) (L.getD k z8) = E0 L k from rfl)
        obtain ⟨x, hx⟩ : ∃ x, L.getD k z8 = x := ⟨_, rfl⟩
        rw [hx] at hc HS HE
        clear hx
        obtain ⟨q0, q1, q2, q3, q4, q5, q6, q7⟩ := hc
        obtain ⟨g0, g1, g2, ⟨g3, g4, g5, g6, g7⟩⟩ := x
        dsimp only at q0 q1 q2 q3 q4 q5 q6 q7
        have HA1 := Lib.hid (ha.later ((Below.refl wr.heap.size wr).alloc (Nat.le_refl _) (.cells #[.int .i64 g0, .int .i64 g1, .int .i64 g2, .int .i64 g3, .int .i64 g4, .int .u64 g5, .int .u64 g6, .int .i64 g7] 31)))
        clear ha hbw
        go_wp2_with fail
        refine (put_any w.heap.size w.heap.size v _ ⟨g0, g1, g2, ⟨g3, g4, g5, g6, g7⟩⟩ _ HA1.out.f).mono ?_
        rintro e w2 ⟨rfl, v2, hf2, hk2, hat2⟩
        have ha2 := HA1.out.put hf2 hk2 hat2
        rw [← HS.out] at ha2
        rw [HE.out]
        have HA2 := Lib.hid ha2
        have hb2 := ha2.b
        have hb2s := hb2.size
        have HSN := Lib.hid (eL_snoc (E0 L) k)
        have HEO : Hid (w2.ownsRow w.heap.size 25 1 _ (eL (E0 L) k).length (nums .i64 (eL (E0 L) k))) := Lib.hid (by rw [eL_len]; exact ha2.e)
        have hel := eL_len (E0 L) k
        have HEL := Lib.hid hel
        obtain ⟨M, hM⟩ : ∃ M, eL (E0 L) k = M := ⟨_, rfl⟩
        rw [hM] at HEO HSN HEL hel
        have hMl : M.length ≤ 50 := by omega
        clear HA1 hf2 hk2 hat2 ha2 hM hel
        go_wp2_with (at_builtin; refine print_append_num (P := Try.prog) (w0 := w) (W := w2) w.heap.size rfl (.tmp 24) (.tmp 28) 37 25 .i64 8 rfl Try.underlying37 info25 (by omega) _ M (E0 L k) rfl rfl HEO.out hb2 hb2s ?ca2 ?_)
        case ca2 => omega
        intro v3 w3 ho3 hb3 hg3 _
        rw [← HSN.out, HEL.out] at ho3
        have HA3 := Lib.hid (HA2.out.errs ho3 hg3 hb3)
        clear ho3 hb3 hg3
        go_wp2
        go_roundw
        case rel => exact ⟨k + 1, v2, by omega, by go_num, HA3.out⟩
        case measure => simp [intOf]; omega
      · obtain rfl : k = L.length := by omega
        rw [List.take_length] at ha
        have HA1 := Lib.hid ha
        have HN := Lib.hid (nm_pl L)
        have hpl := pl_len L
        obtain ⟨P, hP⟩ : ∃ P, pl L = P := ⟨_, rfl⟩
        rw [hP] at HA1 HN hpl
        have HP := Lib.hid hP
        clear ha hP HA hbw
        go_wp2_with fail
        refine (all_any w.heap.size w.heap.size v P _ HA1.out.f).mono ?_
        rintro e w2 ⟨va, rfl, hr2, hb2⟩
        have HA2 := Lib.hid (HA1.out.all hr2 hb2)
        obtain ⟨Aa, ca, rfl, _, _⟩ := hr2.reads
        clear hr2 hb2 HA1
        go_wp2
        go_loopw [35] (fun i wr => ∃ (k : Nat) (v : Value), k ≤ P.length ∧ i = .int .i64 (k : Int) ∧ Ag w wr v u4 (.slice Aa P.length ca) P L.length (E0 L) P) (fun i _ => P.length - (intOf i).toNat)
        case atStart => exact ⟨0, _, by omega, rfl, HA2.out⟩
        case round =>
          obtain ⟨k, v, hk, rfl, ha⟩ := hrel
          by_cases hlk : k < P.length
          · obtain ⟨ad, rfl, hc⟩ := at_W8 (Kd.R_reads' ha.a).2.2 k hlk
            have HG := Lib.hid (nm_again HN.out hlk)
            obtain ⟨x, hx⟩ : ∃ x, P.getD k z8 = x := ⟨_, rfl⟩
            rw [hx] at hc HG
            clear hx
            obtain ⟨q0, q1, q2, q3, q4, q5, q6, q7⟩ := hc
            obtain ⟨g0, g1, g2, ⟨g3, g4, g5, g6, g7⟩⟩ := x
            dsimp only at q0 q1 q2 q3 q4 q5 q6 q7
            have HA3 := Lib.hid (ha.later ((Below.refl wr.heap.size wr).alloc (Nat.le_refl _) (.cells #[.int .i64 g0, .int .i64 g1, .int .i64 g2, .int .i64 g3, .int .i64 g4, .int .u64 g5, .int .u64 g6, .int .i64 g7] 31)))
            clear ha
            go_wp2_with fail
            refine (put_any w.heap.size w.heap.size v _ ⟨g0, g1, g2, ⟨g3, g4, g5, g6, g7⟩⟩ _ HA3.out.f).mono ?_
            rintro e w3 ⟨rfl, v3, hf3, hk3, hat3⟩
            have ha3 := HA3.out.put hf3 hk3 hat3
            rw [HG.out.1] at ha3
            rw [HG.out.2]
            have HA4 := Lib.hid ha3
            clear hf3 hk3 hat3 ha3 HA3
            go_wp2
            go_roundw
            case rel => exact ⟨k + 1, v3, by omega, by go_num, HA4.out⟩
            case measure => simp [intOf]; omega
          · obtain rfl : k = P.length := by omega
            have HA3 := Lib.hid ha
            obtain ⟨wq, rfl⟩ : ∃ wq : World, wq = wr := ⟨_, rfl⟩
            clear ha HA2
            go_wp2_with fail
            refine (all_any w.heap.size w.heap.size v P _ HA3.out.f).mono ?_
            rintro e w4 ⟨vb, rfl, hr4, hb4⟩
            have HA4 := Lib.hid (HA3.out.later hb4)
            obtain ⟨Ab, cb, rfl, _, hC4⟩ := hr4.reads
            have HC4 := Lib.hid hC4
            have HKD := Lib.hid (fun x (hx : x ∈ P) => may_kd (HN.out.1 x hx).1)
            clear hr4 hb4 hC4 HA3
            go_wp2_with fail
            refine (sw_refl P Ab Aa cb ca w4 HC4.out (Kd.R_reads' HA4.out.a).2.2 (by omega) HKD.out).mono ?_
            rintro e w5 ⟨rfl, hb5⟩
            have HA5 := Lib.hid (HA4.out.later hb5)
            clear hb5 HA4 HC4
            go_wp2_with fail
            refine (len_any w.heap.size w.heap.size v P w5 HA5.out.f).mono ?_
            rintro e w6 ⟨rfl, hb6⟩
            have HA6 := Lib.hid (HA5.out.later hb6)
            clear hb6 HA5
            have cne : ∀ z : Int, (z != z) = false := fun z => by rw [bne_eq_false_iff_eq]
            go_wp2_with fail
            refine (clear_any w.heap.size w.heap.size v P w6 HA6.out.f).mono ?_
            rintro e w7 ⟨rfl, hf7, hk7⟩
            have HA7 := Lib.hid (ag_clear HA6.out hf7 hk7)
            clear hf7 hk7 HA6
            go_wp2_with fail
            refine (len_any w.heap.size w.heap.size _ _ w7 HA7.out.f).mono ?_
            rintro e w8 ⟨rfl, hb8⟩
            have HA8 := Lib.hid (HA7.out.later hb8)
            clear hb8 HA7
            go_wp2_with fail
            refine (all_any w.heap.size w.heap.size _ _ w8 HA8.out.f).mono ?_
            rintro e w9 ⟨vc, rfl, hr9, hb9⟩
            have hr9 : R8 w9 w8.heap.size vc [] := hr9
            have HA9 := Lib.hid (HA8.out.later hb9)
            obtain ⟨Ac, cc, rfl, _, _⟩ := hr9.reads
            clear hr9 hb9 HA8
            go_wp2_with fail
            refine (refs_any w.heap.size w.heap.size _ _ w9 HA9.out.f).mono ?_
            rintro e w10 ⟨vd, rfl, ho10, hb10⟩
            have HA10 := Lib.hid (HA9.out.later hb10)
            rw [show refsAll [] = [] from rfl] at ho10
            obtain ⟨_, Ad, cd, rfl, _⟩ := own_rd ho10
            clear ho10 hb10 HA9
            have HAs : Hid (Ag w w10 (.slice none 0 0) u4 (.slice Aa P.length ca) (pl (L.take 0)) L.length (E0 L) P) := Lib.hid HA10.out
            clear HA10
            go_wp2
            go_loopw [75] (fun i wr => ∃ (k : Nat) (v : Value), k ≤ L.length ∧ i = .int .i64 (k : Int) ∧ Ag w wr v u4 (.slice Aa P.length ca) (pl (L.take k)) L.length (E0 L) P) (fun i _ => L.length - (intOf i).toNat)
            case atStart => exact ⟨0, _, by omega, rfl, HAs.out⟩
            case round =>
              obtain ⟨k, v, hk, rfl, ha⟩ := hrel
              have hbw := ha.b
              by_cases hlt : k < L.length
              · obtain ⟨ad, rfl, hc⟩ := at_W8 (Kd.C_below HC.out hbw) k hlt
                have HS := Lib.hid (show pl (L.take (k + 1)) = putL (pl (L.take k)) (L.getD k z8) by rw [take_snoc L z8 k hlt, pl_snoc])
                have HE := Lib.hid (show putE (pl (L.take k)) (L.getD k z8) = E0 L k from rfl)
                obtain ⟨x, hx⟩ : ∃ x, L.getD k z8 = x := ⟨_, rfl⟩
                rw [hx] at hc HS HE
                clear hx
                obtain ⟨q0, q1, q2, q3, q4, q5, q6, q7⟩ := hc
                obtain ⟨g0, g1, g2, ⟨g3, g4, g5, g6, g7⟩⟩ := x
                dsimp only at q0 q1 q2 q3 q4 q5 q6 q7
                have HA11 := Lib.hid (ha.later ((Below.refl wr.heap.size wr).alloc (Nat.le_refl _) (.cells #[.int .i64 g0, .int .i64 g1, .int .i64 g2, .int .i64 g3, .int .i64 g4, .int .u64 g5, .int .u64 g6, .int .i64 g7] 31)))
                have HA12 := Lib.hid (HA11.out.later (Below.refl (wr.alloc (.cells #[.int .i64 g0, .int .i64 g1, .int .i64 g2, .int .i64 g3, .int .i64 g4, .int .u64 g5, .int .u64 g6, .int .i64 g7] 31)).heap.size (wr.alloc (.cells #[.int .i64 g0, .int .i64 g1, .int .i64 g2, .int .i64 g3, .int .i64 g4, .int .u64 g5, .int .u64 g6, .int .i64 g7] 31))).drew)
                have HX : Hid (Bx8 (wr.alloc (.cells #[.int .i64 g0, .int .i64 g1, .int .i64 g2, .int .i64 g3, .int .i64 g4, .int .u64 g5, .int .u64 g6, .int .i64 g7] 31)).drew wr.heap.size ⟨g0, g1, g2, ⟨g3, g4, g5, g6, g7⟩⟩) := Lib.hid (heap_alloc_new wr _)
                obtain ⟨ade, ce, rfl, hce⟩ := e_rd HA11.out.e k hlt
                have HVL := Lib.hid (fun e (he : v.ownBlock = some e) => show e ≠ wr.heap.size from fun h => by have := (ha.f.2.1.lt e he).2; omega)
                have HGL := Lib.hid (show wr.heap.size ≠ w.heap.size from fun h => by have := ha.f.lt; omega)
                obtain ⟨y, hy⟩ : ∃ y, E0 L k = y := ⟨_, rfl⟩
                have HY := Lib.hid hy
                rw [hy] at hce HE
                have i0 : (0 : Int) ≤ (k : Int) := by omega
                have i1 : (k : Int) < (L.length : Int) := by omega
                obtain ⟨b0, b1, b2, b3, b4, b5, b6, b7⟩ := Bx8.cells (show Bx8 (wr.alloc (.cells #[.int .i64 g0, .int .i64 g1, .int .i64 g2, .int .i64 g3, .int .i64 g4, .int .u64 g5, .int .u64 g6, .int .i64 g7] 31)) wr.heap.size ⟨g0, g1, g2, ⟨g3, g4, g5, g6, g7⟩⟩ from heap_alloc_new wr _)
                have HBX := Lib.hid (And.intro b0 (And.intro b1 (And.intro b2 (And.intro b3 (And.intro b4 (And.intro b5 (And.intro b6 b7)))))))
                clear ha hbw hy b0 b1 b2 b3 b4 b5 b6 b7
                go_wp2
                go_region_held3 (fun w' => w'.cell? ⟨wr.heap.size, 0, none⟩ = some (.int .i64 g0) ∧ w'.cell? ⟨wr.heap.size, 1, none⟩ = some (.int .i64 g1) ∧ w'.cell? ⟨wr.heap.size, 2, none⟩ = some (.int .i64 g2) ∧ w'.cell? ⟨wr.heap.size, 3, none⟩ = some (.int .i64 g3) ∧ w'.cell? ⟨wr.heap.size, 4, none⟩ = some (.int .i64 g4) ∧ w'.cell? ⟨wr.heap.size, 5, none⟩ = some (.int .u64 g5) ∧ w'.cell? ⟨wr.heap.size, 6, none⟩ = some (.int .u64 g6) ∧ w'.cell? ⟨wr.heap.size, 7, none⟩ = some (.int .i64 g7) ∧ w'.cell? (ade.add k) = some (.int .i64 y))
                  (first | go_keep | (refine ⟨?_, ?_, ?_, ?_, ?_, ?_, ?_, ?_, ?_⟩ <;> assumption))
                  (first
                    | (go_at_call 10; refine (put_any w.heap.size w.heap.size v _ ⟨g0, g1, g2, ⟨g3, g4, g5, g6, g7⟩⟩ _ HA12.out.f).mono ?_; rintro e w2 ⟨rfl, v2, hf2, hk2, hat2⟩; rw [HE.out]; have ha2 := HA12.out.put hf2 hk2 hat2; have te := e_at ha2.e hlt HY.out; obtain ⟨t0, t1, t2, t3, t4, t5, t6, t7⟩ := Bx8.cells ((hk2.block wr.heap.size (Array.getElem?_eq_some_iff.1 HX.out).1 HGL.out (fun e => HVL.out _ e rfl)).trans HX.out); have HA13 := Lib.hid ha2; clear ha2 hf2 hk2 hat2))
                rw [← HS.out] at HA13
                clear te t0 t1 t2 t3 t4 t5 t6 t7 HA11 HA12 HX HBX
                go_wp2
                go_roundw
                case rel => exact ⟨k + 1, v2, by omega, by go_num, HA13.out⟩
                case measure => simp [intOf]; omega
              · obtain rfl : k = L.length := by omega
                rw [List.take_length, HP.out] at ha
                have HA11 := Lib.hid ha
                obtain ⟨wq, rfl⟩ : ∃ wq : World, wq = wr := ⟨_, rfl⟩
                clear ha hbw HAs
                go_wp2_with fail
                refine (all_any w.heap.size w.heap.size v P _ HA11.out.f).mono ?_
                rintro e w12 ⟨vb, rfl, hr4, hb4⟩
                have HA12 := Lib.hid (HA11.out.later hb4)
                obtain ⟨Ae, cee, rfl, _, hC4⟩ := hr4.reads
                have HC4 := Lib.hid hC4
                clear hr4 hb4 hC4 HA11
                go_wp2_with fail
                refine (sw_refl P Ae Aa cee ca w12 HC4.out (Kd.R_reads' HA12.out.a).2.2 (by omega) HKD.out).mono ?_
                rintro e w13 ⟨rfl, hb5⟩
                have HB13 := Lib.hid (HA12.out.later hb5).b
                clear hb5 HA12 HC4
                go_wp2_with fail
                refine (awake_any _).mono ?_
                rintro e w14 ⟨rfl, hb14⟩
                have hbf := HB13.out.trans (hb14.mono HB13.out.size)
                clear hb14
                go_wp2
                go_ret
                exact ⟨rfl, hbf⟩

theorem own : ownKnob Try.prog.godebug = none := by kernel_rfl
theorem laidOut : laidOutB Try.prog = true := by kernel_rfl
set_option maxRecDepth 100000 in
theorem lifted (os : Os) (started : os.Started) (H : Type) (enc : TypeId × Value → H) :
    ReturnsInHanded {} Try.checked os 4 .any (Rows.bufferAgainSpec.pre6 enc Try.prog Try.f4 Rows.bufferAgainRow.domain false) (Rows.bufferAgainSpec.post enc Try.prog Try.f4 false true false false) := by
  refine returnsInHanded_of_change (C := Try.checked) own started (by kernel_rfl) Try.func4
    (ChangeSpec.witness6 (enc := enc) (C := Try.checked) false ⟨#[], #[.slice none 0 0], []⟩ 8 (by kernel_rfl) (by kernel_rfl) (by kernel_rfl) (by kernel_rfl)) ?_
  intro W base args ds gs before hval0 hW hcnd _
  have hval : ∀ (j : Nat) t v, Try.f4.params[j]? = some t → args[j]? = some v → Value.okWide Try.prog W .any base t v := hval0
  have hW' := hW
  obtain ⟨p, q, hA0, hV, rfl, hfz, hnd⟩ := hW
  have hA : DataW.TrodAll enc Try.prog W 0 (fun _ => true) true Try.f4.params.toList args.toList ds p := hA0
  rw [Try.params4] at hA hval
  obtain ⟨v0, vs0, d0, ds0, p0, q0, hargs, rfl, rfl, h0, r0⟩ := trodAll_cons hA
  obtain ⟨rfl, rfl, rfl⟩ := trodAll_nil r0
  obtain rfl : args = #[v0] := by cases args; simp_all
  obtain ⟨rfl, rfl⟩ := trodVars_none hV
  obtain ⟨a0, len0, cap0, rfl⟩ := okWide_slice Try.underlying32 (hval 0 32 v0 rfl rfl)
  have k0 := h0
  have lt0 : ∀ x ∈ p0, x.block < W.heap.size := by obtain ⟨m, hm⟩ := k0; exact DataW.trod_lt m _ _ _ hm
  obtain ⟨fuel0, hf0⟩ := h0
  obtain ⟨x0, ⟨A0, c0, e0, hc0, hr0⟩, ok0⟩ := Op.opens_slice (n := 31) Try.underlying32 (by kernel_rfl) (Ba.opens_w8) H enc W 0 _ _ _ _ _ hf0
  obtain ⟨rfl, rfl, rfl⟩ : a0 = A0 ∧ len0 = x0.length ∧ cap0 = c0 := by simpa [Value.cells] using e0
  clear hA0 hval0
  refine (walk W _ _ x0 hc0 hr0 ok0).mono fun e W' ⟨he, bel⟩ => ?_
  subst he
  exact ⟨_, rfl, _, _, _, [], _, [], hW', trodAll_mk1 (shut_bool Try.underlying4 _), (trodAll_cons_mk (Below.trod laidOut (by kernel_rfl) (of_decide_eq_true (by kernel_rfl)) k0 bel lt0) trodAll_mk0), rfl, bel.frame _, fun h => by cases h⟩
theorem over : Rows.bufferAgainRow.holds Try.pinned (OpenSpec.ofChange Rows.bufferAgainSpec) :=
  OpenClaim.holds_of_wide 4 Try.f4 rfl rfl rfl rfl rfl rfl rfl ⟨rfl, rfl, rfl, rfl, rfl⟩ rfl rfl rfl rfl rfl (by kernel_rfl) Try.func4 (by kernel_rfl)
    (of_decide_eq_true (by kernel_rfl)) (by unfold Func.isWrapper; first | (rw [if_pos (by decide +kernel)]; kernel_rfl) | (rw [if_neg (by decide +kernel)]; exact ⟨rfl, rfl⟩))
    (fun os started H enc _ => lifted os started H enc)
theorem proved : Rows.BufferAgainSaid := over
#print axioms proved
end Go.Proofs.Ytmdjbldmfmoaaaa.bufferAgain
