/- Super, the program's. -/
import Derived.Test.YtlmlckidgfnhdaaWd
import Derived.Deep.RegionLaw
namespace Go.Proofs.Ytlmlckidgfnhdaa.Su
open Go.RowKit Go.ChangeShapes Go.WideShapes Go.Proofs.YtlmlckidgfnhdaaW.PrintWords Go.Proofs.Ytlmlckidgfnhdaa.Ba Go.Proofs.Ytlmlckidgfnhdaa.Pc Go.Proofs.Ytlmlckidgfnhdaa.My Go.Proofs.Ytlmlckidgfnhdaa.Nw Go.Proofs.Ytlmlckidgfnhdaa.Wb Go.Proofs.Ytlmlckidgfnhdaa.Wd
set_option linter.unusedVariables false
set_option linter.unusedSimpArgs false
theorem infoU : (Try.prog.info? 30).map (fun i => (i.zero, i.size, i.bytes)) = some (some (.int .u64 0), 1, 8) := by kernel_rfl
def eU (x : Nat) : Value := .int .u64 (x : Int)
/-- A row of words of the call's own. -/
def RU (w : World) (base : Nat) (v : Value) (l : List Nat) : Prop := w.ownsRow base 30 1 v l.length (l.map eU)
theorem one_reads (W : World) (y : Nat) : ReadsOf eU 0 (W.alloc (.cells #[.int .u64 (y : Int)] 30)) (some ⟨W.heap.size, 0, none⟩) 1 [y] := by
  refine ⟨rfl, by decide, fun _ => ⟨_, rfl, fun j hj => ?_⟩⟩
  obtain rfl : j = 0 := by omega
  rw [show (Addr.mk W.heap.size 0 none).add 0 = ⟨W.heap.size, 0, none⟩ from rfl, blk_cell (heap_alloc_new W _)]
  rfl
theorem lit4 (W : World) (base : Nat) (hb : base ≤ W.heap.size) (a b c d : Nat) : RU (W.alloc (.cells #[.int .u64 (a : Int), .int .u64 (b : Int), .int .u64 (c : Int), .int .u64 (d : Int)] 30)) base (.slice (some ⟨W.heap.size, 0, none⟩) 4 4) [a, b, c, d] :=
  World.ownsRow_lit (base := base) (e := 30) (size := 1) W #[.int .u64 (a : Int), .int .u64 (b : Int), .int .u64 (c : Int), .int .u64 (d : Int)] 4 hb (by decide) rfl
def hd9 (r e l b0 b1 b2 b3 n : Nat) : List Nat := [8317131967827831151, r, e, l, b0, b1, b2, b3, n]
def sW (r e l b0 b1 b2 b3 : Nat) (ks : List (List Int)) : List Nat := hd9 r e l b0 b1 b2 b3 ks.length ++ ks.map wordK
theorem map_snoc (ks : List (List Int)) (j : Nat) (h : j < ks.length) : (ks.take (j + 1)).map wordK = (ks.take j).map wordK ++ [wordK (ks.getD j [])] := by
  rw [take_snoc ks [] j h, List.map_append]
  rfl
def SPost (l : List Nat) (w : World) (e : Ending) (w' : World) : Prop := ∃ v, e = .returned v ∧ RU w' w.heap.size v l ∧ Below w.heap.size w w'
set_option maxHeartbeats 16000000 in
set_option maxRecDepth 20000 in
theorem super_any (g : Nat) (A : Option Addr) (k : Nat) (ks : List (List Int)) (b0 b1 b2 b3 r e l : Nat) (w : World) (h : LAt w g A k ⟨ks, b0, b1, b2, b3, r, e, l⟩) (hks : Ks w A ks) (hk : ks.length ≤ 16) (h0 : b0 ≤ 4096) (h1 : b1 ≤ 4096) (h2 : b2 ≤ 4096) (h3 : b3 ≤ 4096) (h4 : r ≤ 4096) (h5 : e ≤ 4096) (h6 : l ≤ 4096) :
    Calls Try.prog 19 #[.pointer (some ⟨g, 0, none⟩)] w (SPost (sW r e l b0 b1 b2 b3 ks) w) := by
  have hz54 : ∀ w, (zeroValue 54).run Try.prog w = .ok (.agg #[.slice none 0 0]) w := fun w => by kernel_rfl
  have HL := Lib.hid h
  have HKS := Lib.hid hks
  have HSW : Hid (sW r e l b0 b1 b2 b3 ks = hd9 r e l b0 b1 b2 b3 ks.length ++ ks.map wordK) := Lib.hid rfl
  have HC : Hid (∀ W, Below w.heap.size w W → W.cell? ⟨g, 0, none⟩ = some (.slice A ks.length k) ∧ W.cell? ⟨g, 1, none⟩ = some (.int .i64 b0) ∧ W.cell? ⟨g, 2, none⟩ = some (.int .i64 b1) ∧ W.cell? ⟨g, 3, none⟩ = some (.int .i64 b2) ∧ W.cell? ⟨g, 4, none⟩ = some (.int .i64 b3) ∧ W.cell? ⟨g, 5, none⟩ = some (.int .i64 r) ∧ W.cell? ⟨g, 6, none⟩ = some (.int .i64 e) ∧ W.cell? ⟨g, 7, none⟩ = some (.int .i64 l)) :=
    Lib.hid (fun W hb => by have hx := h.below hb; refine ⟨?_, ?_, ?_, ?_, ?_, ?_, ?_, ?_⟩ <;> (rw [blk_cell hx]; rfl))
  obtain ⟨i0, i1, i2, i3⟩ := Pl.idx4 (b0 : Int) b1 b2 b3
  have y0 : IntKind.u64.wrap (b0 : Int) = (b0 : Int) := wrap_nat _ (by omega)
  have y1 : IntKind.u64.wrap (b1 : Int) = (b1 : Int) := wrap_nat _ (by omega)
  have y2 : IntKind.u64.wrap (b2 : Int) = (b2 : Int) := wrap_nat _ (by omega)
  have y3 : IntKind.u64.wrap (b3 : Int) = (b3 : Int) := wrap_nat _ (by omega)
  have y4 : IntKind.u64.wrap (r : Int) = (r : Int) := wrap_nat _ (by omega)
  have y5 : IntKind.u64.wrap (e : Int) = (e : Int) := wrap_nat _ (by omega)
  have y6 : IntKind.u64.wrap (l : Int) = (l : Int) := wrap_nat _ (by omega)
  have y7 : IntKind.u64.wrap (ks.length : Int) = (ks.length : Int) := wrap_nat _ (by omega)
  obtain ⟨p0, p1, p2, p3, p4, p5, p6, p7⟩ := HC.out w (Below.refl _ _)
  have ke : ∀ W : World, (binOp .eql 31 (.pointer (some ⟨g, 0, none⟩)) (.pointer none)).run Try.prog W = .ok (.bool false) W := fun W => by rfl
  clear h hks
  go_enter Try.func19, Try.ntmps19
  go_wp2
  go_region
  all_goals
    have HB1 : Hid (Below w.heap.size w (w.alloc (.cells #[.int .u64 8317131967827831151, .int .u64 (r : Int), .int .u64 (e : Int), .int .u64 (l : Int)] 30)).drew) := Lib.hid (((Below.refl _ _).alloc (Nat.le_refl _) _).drew)
    have HO1 : Hid (RU (w.alloc (.cells #[.int .u64 8317131967827831151, .int .u64 (r : Int), .int .u64 (e : Int), .int .u64 (l : Int)] 30)).drew w.heap.size (.slice (some ⟨w.heap.size, 0, none⟩) 4 4) [8317131967827831151, r, e, l]) := Lib.hid (pw_own_below (lit4 w w.heap.size (Nat.le_refl _) 8317131967827831151 r e l) ((Below.refl _ _).drew))
    obtain ⟨q0, q1, q2, q3, q4, q5, q6, q7⟩ := HC.out (w.alloc (.cells #[.int .u64 8317131967827831151, .int .u64 (r : Int), .int .u64 (e : Int), .int .u64 (l : Int)] 30)).drew HB1.out
    clear p0 p1 p2 p3 p4 p5 p6 p7
    go_wp2
    go_loopw [3, 34] (fun v i wr => (i = .int .i64 0 ∧ RU wr w.heap.size v [8317131967827831151, r, e, l] ∧ Below w.heap.size w wr) ∨ (i = .int .i64 1 ∧ RU wr w.heap.size v [8317131967827831151, r, e, l, b0] ∧ Below w.heap.size w wr) ∨ (i = .int .i64 2 ∧ RU wr w.heap.size v [8317131967827831151, r, e, l, b0, b1] ∧ Below w.heap.size w wr) ∨ (i = .int .i64 3 ∧ RU wr w.heap.size v [8317131967827831151, r, e, l, b0, b1, b2] ∧ Below w.heap.size w wr) ∨ (i = .int .i64 4 ∧ RU wr w.heap.size v [8317131967827831151, r, e, l, b0, b1, b2, b3] ∧ Below w.heap.size w wr)) (fun _ i _ => 4 - (intOf i).toNat)
    case atStart => exact .inl ⟨rfl, HO1.out, HB1.out⟩
    case round =>
      clear q0 q1 q2 q3 q4 q5 q6 q7
      rcases hrel with ⟨rfl, ho, hb⟩ | ⟨rfl, ho, hb⟩ | ⟨rfl, ho, hb⟩ | ⟨rfl, ho, hb⟩ | ⟨rfl, ho, hb⟩
      · have HO := Lib.hid ho
        have HB := Lib.hid hb
        clear ho hb
        have hba := (Below.refl wr.heap.size wr).alloc (Nat.le_refl _) (.cells #[.int .u64 (b0 : Int)] 30)
        have HOA := Lib.hid (pw_own_below HO.out hba)
        have HBA := Lib.hid (HB.out.trans (hba.mono HB.out.size))
        have HRD := Lib.hid (one_reads wr b0)
        clear hba
        go_wp2_with (at_builtin; refine print_append_row_of (P := Try.prog) (w0 := w) (W := wr.alloc (.cells #[.int .u64 (b0 : Int)] 30)) eU 0 w.heap.size rfl (.tmp 37) (.tmp 40) 37 30 (.int .u64 0) 8 rfl Try.underlying37 infoU rfl (by decide) (fun _ => rfl) _ [8317131967827831151, r, e, l] [b0] (some ⟨wr.heap.size, 0, none⟩) 1 1 rfl rfl HOA.out HRD.out HBA.out HBA.out.size (by simp only [List.length_cons, List.length_nil]; omega) ?_)
        intro v9 w9 ho9 hb9 _ _
        have HO9 : Hid (RU w9 w.heap.size v9 [8317131967827831151, r, e, l, b0]) := Lib.hid ho9
        clear ho9
        go_wp2
        go_roundw
        case rel => exact .inr (.inl ⟨rfl, HO9.out, hb9⟩)
        case measure => simp [intOf]
      · have HO := Lib.hid ho
        have HB := Lib.hid hb
        clear ho hb
        have hba := (Below.refl wr.heap.size wr).alloc (Nat.le_refl _) (.cells #[.int .u64 (b1 : Int)] 30)
        have HOA := Lib.hid (pw_own_below HO.out hba)
        have HBA := Lib.hid (HB.out.trans (hba.mono HB.out.size))
        have HRD := Lib.hid (one_reads wr b1)
        clear hba
        go_wp2_with (at_builtin; refine print_append_row_of (P := Try.prog) (w0 := w) (W := wr.alloc (.cells #[.int .u64 (b1 : Int)] 30)) eU 0 w.heap.size rfl (.tmp 37) (.tmp 40) 37 30 (.int .u64 0) 8 rfl Try.underlying37 infoU rfl (by decide) (fun _ => rfl) _ [8317131967827831151, r, e, l, b0] [b1] (some ⟨wr.heap.size, 0, none⟩) 1 1 rfl rfl HOA.out HRD.out HBA.out HBA.out.size (by simp only [List.length_cons, List.length_nil]; omega) ?_)
        intro v9 w9 ho9 hb9 _ _
        have HO9 : Hid (RU w9 w.heap.size v9 [8317131967827831151, r, e, l, b0, b1]) := Lib.hid ho9
        clear ho9
        go_wp2
        go_roundw
        case rel => exact .inr (.inr (.inl ⟨rfl, HO9.out, hb9⟩))
        case measure => simp [intOf]
      · have HO := Lib.hid ho
        have HB := Lib.hid hb
        clear ho hb
        have hba := (Below.refl wr.heap.size wr).alloc (Nat.le_refl _) (.cells #[.int .u64 (b2 : Int)] 30)
        have HOA := Lib.hid (pw_own_below HO.out hba)
        have HBA := Lib.hid (HB.out.trans (hba.mono HB.out.size))
        have HRD := Lib.hid (one_reads wr b2)
        clear hba
        go_wp2_with (at_builtin; refine print_append_row_of (P := Try.prog) (w0 := w) (W := wr.alloc (.cells #[.int .u64 (b2 : Int)] 30)) eU 0 w.heap.size rfl (.tmp 37) (.tmp 40) 37 30 (.int .u64 0) 8 rfl Try.underlying37 infoU rfl (by decide) (fun _ => rfl) _ [8317131967827831151, r, e, l, b0, b1] [b2] (some ⟨wr.heap.size, 0, none⟩) 1 1 rfl rfl HOA.out HRD.out HBA.out HBA.out.size (by simp only [List.length_cons, List.length_nil]; omega) ?_)
        intro v9 w9 ho9 hb9 _ _
        have HO9 : Hid (RU w9 w.heap.size v9 [8317131967827831151, r, e, l, b0, b1, b2]) := Lib.hid ho9
        clear ho9
        go_wp2
        go_roundw
        case rel => exact .inr (.inr (.inr (.inl ⟨rfl, HO9.out, hb9⟩)))
        case measure => simp [intOf]
      · have HO := Lib.hid ho
        have HB := Lib.hid hb
        clear ho hb
        have hba := (Below.refl wr.heap.size wr).alloc (Nat.le_refl _) (.cells #[.int .u64 (b3 : Int)] 30)
        have HOA := Lib.hid (pw_own_below HO.out hba)
        have HBA := Lib.hid (HB.out.trans (hba.mono HB.out.size))
        have HRD := Lib.hid (one_reads wr b3)
        clear hba
        go_wp2_with (at_builtin; refine print_append_row_of (P := Try.prog) (w0 := w) (W := wr.alloc (.cells #[.int .u64 (b3 : Int)] 30)) eU 0 w.heap.size rfl (.tmp 37) (.tmp 40) 37 30 (.int .u64 0) 8 rfl Try.underlying37 infoU rfl (by decide) (fun _ => rfl) _ [8317131967827831151, r, e, l, b0, b1, b2] [b3] (some ⟨wr.heap.size, 0, none⟩) 1 1 rfl rfl HOA.out HRD.out HBA.out HBA.out.size (by simp only [List.length_cons, List.length_nil]; omega) ?_)
        intro v9 w9 ho9 hb9 _ _
        have HO9 : Hid (RU w9 w.heap.size v9 [8317131967827831151, r, e, l, b0, b1, b2, b3]) := Lib.hid ho9
        clear ho9
        go_wp2
        go_roundw
        case rel => exact .inr (.inr (.inr (.inr ⟨rfl, HO9.out, hb9⟩)))
        case measure => simp [intOf]
      · have HO := Lib.hid ho
        have HB := Lib.hid hb
        obtain ⟨q0, q1, q2, q3, q4, q5, q6, q7⟩ := HC.out wr hb
        have ho2 := ho
        clear ho hb
        have hba := (Below.refl wr.heap.size wr).alloc (Nat.le_refl _) (.cells #[.int .u64 (ks.length : Int)] 30)
        have HOA := Lib.hid (pw_own_below HO.out hba)
        have HBA := Lib.hid (HB.out.trans (hba.mono HB.out.size))
        have HRD := Lib.hid (one_reads wr ks.length)
        clear hba
        go_wp2_with (at_builtin; refine print_append_row_of (P := Try.prog) (w0 := w) (W := wr.alloc (.cells #[.int .u64 (ks.length : Int)] 30)) eU 0 w.heap.size rfl (.tmp 43) (.tmp 51) 37 30 (.int .u64 0) 8 rfl Try.underlying37 infoU rfl (by decide) (fun _ => rfl) _ [8317131967827831151, r, e, l, b0, b1, b2, b3] [ks.length] (some ⟨wr.heap.size, 0, none⟩) 1 1 rfl rfl HOA.out HRD.out HBA.out HBA.out.size (by simp only [List.length_cons, List.length_nil]; omega) ?_)
        intro v9 w9 ho9 hb9 _ _
        have HO9 : Hid (RU w9 w.heap.size v9 (hd9 r e l b0 b1 b2 b3 ks.length)) := Lib.hid ho9
        have HB9 := Lib.hid hb9
        obtain ⟨c0, c1, c2, c3, c4, c5, c6, c7⟩ := HC.out w9 hb9
        clear ho9 hb9 q0 q1 q2 q3 q4 q5 q6 q7 ho2
        go_wp2
        go_loopw [3, 59] (fun v i wr => ∃ j : Nat, j ≤ ks.length ∧ i = .int .i64 (j : Int) ∧ RU wr w.heap.size v (hd9 r e l b0 b1 b2 b3 ks.length ++ (ks.take j).map wordK) ∧ Below w.heap.size w wr) (fun _ i _ => ks.length - (intOf i).toNat)
        case atStart => exact ⟨0, by omega, rfl, HO9.out, HB9.out⟩
        case round =>
          obtain ⟨j, hj, rfl, ho, hb⟩ := hrel
          have HO := Lib.hid ho
          have HB := Lib.hid hb
          clear ho c0 c1 c2 c3 c4 c5 c6 c7
          by_cases hlt : j < ks.length
          · obtain ⟨ad, rfl, A1, c1, hc, hl1, hr⟩ := HKS.out.old hb.block j hlt
            have HMS := Lib.hid (map_snoc ks j hlt)
            have hpl : (hd9 r e l b0 b1 b2 b3 ks.length ++ (ks.take j).map wordK).length ≤ 100 := by rw [List.length_append, List.length_map, List.length_take_of_le hj]; simp [hd9]; omega
            obtain ⟨f, hf⟩ : ∃ f, ks.getD j [] = f := ⟨_, rfl⟩
            rw [hf] at hc hl1 hr HMS
            obtain ⟨P, hP⟩ : ∃ P, hd9 r e l b0 b1 b2 b3 ks.length ++ (ks.take j).map wordK = P := ⟨_, rfl⟩
            have HPE : Hid (hd9 r e l b0 b1 b2 b3 ks.length ++ (ks.take (j + 1)).map wordK = P ++ [wordK f]) := Lib.hid (by rw [HMS.out, ← hP, List.append_assoc])
            rw [hP] at HO hpl
            have hbx := (Below.refl wr.heap.size wr).alloc (Nat.le_refl _) (.cells #[.slice A1 f.length c1] 54)
            have HBX := Lib.hid (HB.out.trans (hbx.mono HB.out.size))
            have HOX := Lib.hid (pw_own_below HO.out hbx)
            have HWD := Lib.hid (word_any A1 c1 f _ (hr.below hbx.block))
            obtain ⟨y, hy⟩ : ∃ y, wordK f = y := ⟨_, rfl⟩
            rw [hy] at HWD HPE
            clear hb hf hr hP hbx hy
            go_wp2_with fail
            refine HWD.out.mono ?_
            rintro e w3 ⟨rfl, hb3⟩
            have HB3 := Lib.hid (HBX.out.trans (hb3.mono HBX.out.size))
            have HO3 := Lib.hid (pw_own_below HOX.out hb3)
            clear hb3
            have hba := (Below.refl w3.heap.size w3).alloc (Nat.le_refl _) (.cells #[.int .u64 (y : Int)] 30)
            have HOA := Lib.hid (pw_own_below HO3.out hba)
            have HBA := Lib.hid (HB3.out.trans (hba.mono HB3.out.size))
            have HRD := Lib.hid (one_reads w3 y)
            clear hba
            go_wp2_with (at_builtin; refine print_append_row_of (P := Try.prog) (w0 := w) (W := w3.alloc (.cells #[.int .u64 (y : Int)] 30)) eU 0 w.heap.size rfl (.tmp 63) (.tmp 66) 37 30 (.int .u64 0) 8 rfl Try.underlying37 infoU rfl (by decide) (fun _ => rfl) _ P [y] (some ⟨w3.heap.size, 0, none⟩) 1 1 rfl rfl HOA.out HRD.out HBA.out HBA.out.size (by omega) ?_)
            intro v9 w9 ho9 hb9 _ _
            have HO9 : Hid (RU w9 w.heap.size v9 (hd9 r e l b0 b1 b2 b3 ks.length ++ (ks.take (j + 1)).map wordK)) := Lib.hid (by rw [HPE.out]; show w9.ownsRow _ 30 1 v9 (P ++ [y]).length _; rw [List.length_append]; exact ho9)
            clear ho9
            go_wp2
            go_roundw
            case rel => exact ⟨j + 1, by omega, by go_num, HO9.out, hb9⟩
            case measure => simp [intOf]; omega
          · obtain rfl : j = ks.length := by omega
            have hoF := HO.out
            rw [List.take_length, ← HSW.out] at hoF
            have HOF := Lib.hid hoF
            clear hoF hb
            go_wp2
            go_ret
            exact ⟨_, rfl, HOF.out, HB.out⟩
end Go.Proofs.Ytlmlckidgfnhdaa.Su
