/- Writes as they lie (eight cells), rows of rows of ints; light; the table as a function. -/
import Derived.Test.YtgkjhnilgmokiaaClo
import Derived.RegionTactic
namespace Go.Proofs.Ytgkjhnilgmokiaa.W8
open Go.RowKit Go.ChangeShapes Go.WideShapes Go.Proofs.YtgkjhnilgmokiaaW.PrintWords Go.Proofs.Ytgkjhnilgmokiaa.Ha Go.Proofs.Ytgkjhnilgmokiaa.Hp Go.Proofs.Ytgkjhnilgmokiaa.Cl Go.Proofs.Ytgkjhnilgmokiaa.Clo
structure V5 where
  kd : Int
  n : Int
  re : Int
  im : Int
  ref : Int
structure W8 where
  kind : Int
  obj : Int
  field : Int
  v : V5
def z5 : V5 := ⟨0, 0, 0, 0, 0⟩
def z8 : W8 := ⟨0, 0, 0, z5⟩
def V5.cs (x : V5) : List Value := [.int .i64 x.kd, .int .i64 x.n, .int .u64 x.re, .int .u64 x.im, .int .i64 x.ref]
def W8.cs (x : W8) : List Value := [.int .i64 x.kind, .int .i64 x.obj, .int .i64 x.field, .int .i64 x.v.kd, .int .i64 x.v.n, .int .u64 x.v.re, .int .u64 x.v.im, .int .i64 x.v.ref]
def k5 : Kd V5 := Kd.iso (Kd.pair (Kd.int .i64) (Kd.pair (Kd.int .i64) (Kd.pair (Kd.int .u64) (Kd.pair (Kd.int .u64) (Kd.int .i64))))) (fun x : V5 => (x.kd, x.n, x.re, x.im, x.ref))
def k8 : Kd W8 := Kd.iso (Kd.pair (Kd.int .i64) (Kd.pair (Kd.int .i64) (Kd.pair (Kd.int .i64) k5))) (fun x : W8 => (x.kind, x.obj, x.field, x.v))
theorem k5_open {w : World} {x : V5} {cs : List Value} (h : k5.K w x cs) : cs = x.cs := by
  obtain ⟨_, _, rfl, rfl, ⟨_, _, rfl, rfl, ⟨_, _, rfl, rfl, ⟨_, _, rfl, rfl, rfl⟩⟩⟩⟩ := h
  rfl
theorem k8_open {w : World} {x : W8} {cs : List Value} (h : k8.K w x cs) : cs = x.cs := by
  obtain ⟨_, _, rfl, rfl, ⟨_, _, rfl, rfl, ⟨_, _, rfl, rfl, h5⟩⟩⟩ := h
  obtain rfl := k5_open h5
  rfl
def ok5 (x : V5) : Prop := wf64 x.kd ∧ wf64 x.n ∧ (Lit.int .u64 x.re).wf = true ∧ (Lit.int .u64 x.im).wf = true ∧ wf64 x.ref
def ok8 (x : W8) : Prop := wf64 x.kind ∧ wf64 x.obj ∧ wf64 x.field ∧ ok5 x.v
theorem opens_v5 : Op.Opens Try.prog 36 k5 ok5 := by
  have h := Op.opens_iso (fun x : V5 => (x.kd, x.n, x.re, x.im, x.ref)) (fun y => V5.mk y.1 y.2.1 y.2.2.1 y.2.2.2.1 y.2.2.2.2) (fun _ => rfl)
    (Op.opens_struct Try.underlying36 (by kernel_rfl) (Op.opensF_cons rfl (by kernel_rfl) (Op.opens_int Try.underlying3) (Op.opensF_cons rfl (by kernel_rfl) (Op.opens_int Try.underlying2)
      (Op.opensF_cons rfl (by kernel_rfl) (Op.opens_int Try.underlying34) (Op.opensF_cons rfl (by kernel_rfl) (Op.opens_int Try.underlying34) (Op.opensF_last rfl (by kernel_rfl) (Op.opens_int Try.underlying3)))))))
  intro H enc w base spare held fuel cs x hx
  obtain ⟨y, hy, o⟩ := h H enc w base spare held fuel cs x hx
  exact ⟨y, hy, o⟩
theorem opens_w8 : Op.Opens Try.prog 38 k8 ok8 := by
  have h := Op.opens_iso (fun x : W8 => (x.kind, x.obj, x.field, x.v)) (fun y => W8.mk y.1 y.2.1 y.2.2.1 y.2.2.2) (fun _ => rfl)
    (Op.opens_struct Try.underlying38 (by kernel_rfl) (Op.opensF_cons rfl (by kernel_rfl) (Op.opens_int Try.underlying3) (Op.opensF_cons rfl (by kernel_rfl) (Op.opens_int Try.underlying3)
      (Op.opensF_cons rfl (by kernel_rfl) (Op.opens_int Try.underlying3) (Op.opensF_last rfl (by kernel_rfl) opens_v5)))))
  intro H enc w base spare held fuel cs x hx
  obtain ⟨y, hy, o⟩ := h H enc w base spare held fuel cs x hx
  exact ⟨y, hy, o⟩
/-- Eight cells in line. -/
structure At8 (w : World) (p : Addr) (x : W8) : Prop where
  c0 : w.cell? p = some (.int .i64 x.kind)
  c1 : w.cell? ⟨p.block, p.off + 1, none⟩ = some (.int .i64 x.obj)
  c2 : w.cell? ⟨p.block, p.off + 2, none⟩ = some (.int .i64 x.field)
  c3 : w.cell? ⟨p.block, p.off + 3, none⟩ = some (.int .i64 x.v.kd)
  c4 : w.cell? ⟨p.block, p.off + 4, none⟩ = some (.int .i64 x.v.n)
  c5 : w.cell? ⟨p.block, p.off + 5, none⟩ = some (.int .u64 x.v.re)
  c6 : w.cell? ⟨p.block, p.off + 6, none⟩ = some (.int .u64 x.v.im)
  c7 : w.cell? ⟨p.block, p.off + 7, none⟩ = some (.int .i64 x.v.ref)
theorem at_W8 {w : World} {A : Option Addr} {n : Nat} {xs : List W8} (h : Kd.C k8 w A n xs) (i : Nat) (h1 : i < n) : ∃ ad, A = some ad ∧ At8 w (ad.add (i * 8)) (xs.getD i z8) := by
  obtain ⟨ad, c, e, _, hK, hc0⟩ := Kd.C_get h z8 i (by omega) (by omega)
  rw [Int.toNat_natCast] at hc0 hK
  have hc : ∀ j u, c[j]? = some u → w.cell? (ad.add (i * 8 + j)) = some u := hc0
  obtain rfl := k8_open hK
  refine ⟨ad, e, hc 0 _ rfl, ?_, ?_, ?_, ?_, ?_, ?_, ?_⟩
  all_goals (rw [← add_field _ _ _ (by omega)]; exact hc _ _ rfl)
/-- A row of a row of rows. -/
theorem at_row {w : World} {A : Option Addr} {n : Nat} {xs : List (List Int)} (h : Kd.C (Kd.slice 3 (Kd.int .i64)) w A n xs) (i : Nat) (h1 : i < n) : ∃ ad B c, A = some ad ∧ w.cell? (ad.add i) = some (.slice B (xs.getD i []).length c) ∧
    (xs.getD i []).length ≤ c ∧ Kd.C (Kd.int .i64) w B (xs.getD i []).length (xs.getD i []) := by
  obtain ⟨ad, c, e, _, ⟨B, c', hcs, hl, hC⟩, hc0⟩ := Kd.C_get h [] i (by omega) (by omega)
  rw [Int.toNat_natCast] at hc0 hcs hl hC
  have hc : ∀ j u, c[j]? = some u → w.cell? (ad.add (i * 1 + j)) = some u := hc0
  subst hcs
  have := hc 0 _ rfl
  rw [Nat.mul_one, Nat.add_zero] at this
  exact ⟨ad, B, c', e, this, hl, hC⟩
theorem rd_C {w : World} {A : Option Addr} {l : List Int} (h : Kd.C (Kd.int .i64) w A l.length l) : Rd w A l := by
  intro i hi
  obtain ⟨ad, e, hc⟩ := Kd.at_int h i (by omega) (by omega)
  rw [Int.toNat_natCast] at hc
  exact ⟨ad, e, hc⟩
def lightR (t : List (List Int)) : Bool := t.all fun r => decide (r.length ≤ 30)
theorem lightR_take {t : List (List Int)} {k : Nat} (hk : k < t.length) (h : lightR (t.take k) = true) : lightR (t.take (k + 1)) = decide ((t.getD k []).length ≤ 30) := by
  have e : t.take (k + 1) = t.take k ++ [t.getD k []] := by
    rw [List.take_add_one, List.getD_eq_getElem?_getD, List.getElem?_eq_getElem hk]
    rfl
  unfold lightR at h ⊢
  rw [e, List.all_append, h]
  simp
def Lt (t : List (List Int)) (n : Nat) : Prop := t.length ≤ 80 ∧ n ≤ 80 ∧ ∀ r ∈ t, r.length ≤ 30
def LPost (t : List (List Int)) (n : Nat) (e : Ending) : Prop := ∃ b : Bool, e = .returned (.bool b) ∧ (b = true → Lt t n)
set_option maxHeartbeats 1000000 in
theorem light_any (A1 : Option Addr) (c1 : Nat) (t : List (List Int)) (A0 : Option Addr) (n c0 : Nat) (w : World) (ht : Kd.C (Kd.slice 3 (Kd.int .i64)) w A1 t.length t) (hn : n ≤ 9223372036854775807) :
    Calls Try.prog 13 #[.slice A1 t.length c1, .slice A0 n c0] w fun e w' => LPost t n e ∧ w = w' := by
  have hm := Kd.C_max ht
  have HT := Lib.hid ht
  clear ht
  by_cases h1 : t.length ≤ 80
  · by_cases h2 : n ≤ 80
    · go_enter Try.func13, Try.ntmps13
      go_wp2
      go_loop [6, 17] (fun _ i => ∃ k : Nat, k ≤ t.length ∧ i = .int .i64 (k : Int) ∧ ∀ j, j < k → (t.getD j []).length ≤ 30) (fun _ i => t.length - (intOf i).toNat)
      case atStart => exact ⟨0, by omega, rfl, fun j hj => by omega⟩
      case round =>
        obtain ⟨k, hk, rfl, hno⟩ := hrel
        have HN := Lib.hid hno
        clear hno
        by_cases hlt : k < t.length
        · obtain ⟨ad, B, c, rfl, hc, hl, hC⟩ := at_row HT.out k hlt
          have hCm := Kd.C_max hC
          clear hC
          by_cases h3 : (t.getD k []).length ≤ 30
          · have hst : ∀ j, j < k + 1 → (t.getD j []).length ≤ 30 := by
              intro j hj
              by_cases e : j = k
              · subst e; exact h3
              · exact HN.out j (by omega)
            have HS := Lib.hid hst
            clear hst HN
            generalize (t.getD k []).length = m at hc hl hCm h3
            go_wp2
            go_round
            case rel => exact ⟨k + 1, by omega, by go_num, HS.out⟩
            case measure => simp [intOf]; omega
          · generalize (t.getD k []).length = m at hc hl hCm h3
            go_wp2
            go_ret
            exact ⟨⟨false, rfl, fun h => by cases h⟩, rfl⟩
        · obtain rfl : k = t.length := by omega
          go_wp2
          go_ret
          refine ⟨⟨true, rfl, fun _ => ⟨h1, h2, fun r hr => ?_⟩⟩, rfl⟩
          obtain ⟨j, hj, e⟩ := List.mem_iff_getElem.1 hr
          have := HN.out j hj
          rw [List.getD_eq_getElem?_getD, List.getElem?_eq_getElem hj] at this
          rw [← e]; exact this
    · go_enter Try.func13, Try.ntmps13
      go_wp2
      go_ret
      exact ⟨⟨false, rfl, fun h => by cases h⟩, rfl⟩
  · go_enter Try.func13, Try.ntmps13
    go_wp2
    go_ret
    exact ⟨⟨false, rfl, fun h => by cases h⟩, rfl⟩
end Go.Proofs.Ytgkjhnilgmokiaa.W8
