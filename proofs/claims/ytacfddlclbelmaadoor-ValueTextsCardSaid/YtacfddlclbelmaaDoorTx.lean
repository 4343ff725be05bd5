/- Texts: the Go functions put and Text, by contract. -/
import Derived.Test.YtacfddlclbelmaaDoorVb
import Derived.Laws.Bits64
import Derived.Maps.AppendAt
import Derived.Lib.Hide
namespace Go.Proofs.YtacfddlclbelmaaDoor.Tx
open Go.RowKit Go.Proofs.YtacfddlclbelmaaDoor.Ba Go.Proofs.YtacfddlclbelmaaDoor.Vb
set_option linter.unusedVariables false
set_option maxRecDepth 100000
theorem info5 : (Tryd.prog.info? 5).map (fun i => (i.zero, i.size, i.bytes)) = some (some (.int .u8 0), 1, 1) := by kernel_rfl

def RI (i : Value) (k : Nat) : Prop := (i = .int .i64 (-1) ∧ k = 16) ∨ (∃ m : Nat, i = .int .i64 (m : Int) ∧ m ≤ 15 ∧ k = 15 - m)
def dig (d : Nat) : Value := .int .u8 (if d < 10 then 48 + d else 87 + d : Nat)
def hexs (x k : Nat) : List Value := (List.range k).map fun j => dig (x / 16 ^ (15 - j) % 16)
theorem and15 (x m : Nat) (hx : x < 18446744073709551616) : Go.bits .and .u64 ((x : Int) / 2 ^ (4 * m)) 15 = ((x / 16 ^ m % 16 : Nat) : Int) := by
  have e : (x : Int) / 2 ^ (4 * m) = ((x / 16 ^ m : Nat) : Int) := by
    rw [show (16 : Nat) = 2 ^ 4 from rfl, ← Nat.pow_mul, Int.natCast_ediv, Int.natCast_pow]; rfl
  have hle : x / 16 ^ m ≤ x := Nat.div_le_self _ _
  have h := u64_and_nat (x / 16 ^ m) 15 (by omega) (by omega)
  rw [show ((15 : Nat) : Int) = 15 from rfl] at h
  rw [e, h, show (15 : Nat) = 2 ^ 4 - 1 from rfl, Nat.and_two_pow_sub_one_eq_mod]
theorem tbl_dig : ∀ d : Fin 16, ((ByteArray.mk #[48, 49, 50, 51, 52, 53, 54, 55, 56, 57, 97, 98, 99, 100, 101, 102])[d.val]'(d.isLt)).toNat = if d.val < 10 then 48 + d.val else 87 + d.val := by decide
theorem dig_eq (d : Nat) (h : d < 16) : Value.int .u8 ((((ByteArray.mk #[48, 49, 50, 51, 52, 53, 54, 55, 56, 57, 97, 98, 99, 100, 101, 102])[d]'h).toNat : Nat) : Int) = dig d := by
  rw [tbl_dig ⟨d, h⟩]; rfl
theorem cell_dig (w : World) (d : Nat) (h : d < 16) : ∀ (j : Nat) (u : Value), [dig d][j]? = some u →
    (w.alloc (.cells #[Value.int .u8 ((((ByteArray.mk #[48, 49, 50, 51, 52, 53, 54, 55, 56, 57, 97, 98, 99, 100, 101, 102])[d]'h).toNat : Nat) : Int)] 5)).cell? ((⟨w.heap.size, 0, none⟩ : Addr).add j) = some u := by
  rw [dig_eq d h]
  exact cell_one_new _ _ _
theorem hexs_succ (x m d : Nat) (hm : m ≤ 15) (hd : x / 16 ^ m % 16 = d) : hexs x (15 - m) ++ [dig d] = hexs x (15 - m + 1) := by
  unfold hexs
  rw [List.range_succ, List.map_append]
  have e : 15 - (15 - m) = m := by omega
  simp [e, hd]
theorem one_dig (d : Nat) : ∀ u ∈ [dig d], u.oneCell' = true := by
  intro u hu
  simp only [List.mem_singleton] at hu
  subst hu; rfl
theorem RI.next {m : Nat} (hm : m ≤ 15) : RI (.int .i64 ((m : Int) - 1)) (15 - m + 1) := by
  cases m with
  | zero => exact .inl ⟨rfl, rfl⟩
  | succ m => exact .inr ⟨m, by congr 1; omega, by omega, by omega⟩
set_option maxHeartbeats 400000 in
theorem put_any (B : Nat) (v : Value) (n : Nat) (xs : List Value) (x : Nat) (w : World) (hown : w.ownsRow B 5 1 v n xs) (hn : n ≤ 100) (hB : B ≤ w.heap.size) (hx : x < 18446744073709551616) :
    Calls Tryd.prog 51 #[v, .int .u64 (x : Int)] w fun e w' => ∃ v', e = .returned v' ∧ w'.ownsRow B 5 1 v' (n + 16) (xs ++ hexs x 16) ∧ Below B w w' := by
  obtain ⟨i0, hi0, hz0, hz1, hz2⟩ := info_parts info5
  go_enter Tryd.func51, Tryd.ntmps51
  go_wp2
  go_loopw [0, 5] (fun s i wr => ∃ k, RI i k ∧ wr.ownsRow B 5 1 s (n + k) (xs ++ hexs x k) ∧ Below B w wr) (fun _ i _ => (intOf i + 1).toNat)
  case atStart => exact ⟨0, .inr ⟨15, rfl, by omega, rfl⟩, by simpa [hexs] using hown, Below.refl _ _⟩
  case round =>
    obtain ⟨k, hR, ho, hb⟩ := hrel
    rcases hR with ⟨rfl, hk⟩ | ⟨m, rfl, hm, hk⟩
    · subst hk
      go_wp2
      go_ret
      exact ⟨_, rfl, ho, hb⟩
    · have hd := and15 x m hx
      have hdl : x / 16 ^ m % 16 < 16 := Nat.mod_lt _ (by omega)
      have hd2 : ((x / 16 ^ m % 16 : Nat) : Int) < 16 := by omega
      have hd3 : (0 : Int) ≤ ((x / 16 ^ m % 16 : Nat) : Int) := by omega
      generalize hdd : x / 16 ^ m % 16 = d at *
      have HDD := Lib.hid hdd
      clear hdd
      subst hk
      go_wp2_with (at_builtin; refine wpList_append_own _ rfl (.tmp 10) (.tmp 17) _ rfl B 5 i0 (.int .u8 0) 1 1 Tryd.underlying72 hi0 hz0 hz1 hz2 rfl (by decide) _ _ _ rfl (ho.alloc _) ⟨wr.heap.size, 0, none⟩ 1 1 [dig d] rfl rfl ?c1 ?c2 ?c3 ?c4 ?c5 ?_)
      case c1 => exact cell_dig wr d hdl
      case c2 => exact one_dig d
      case c3 => simp only [maxLen]; omega
      case c4 => omega
      case c5 => simp; exact Nat.le_succ_of_le (Nat.le_trans hB hb.size)
      intro v' w1 ho1 hg1 _
      have hb1 : Below B w w1 := (hb.alloc (Nat.le_trans hB hb.size) _).grown hg1 (by simp; exact Nat.le_succ_of_le (Nat.le_trans hB hb.size)) (fun k hk => (ho.lt k hk).1)
      rw [hexs_succ x m d hm HDD.out] at ho1
      clear hg1 hd
      go_wp2
      go_roundw
      case rel => exact ⟨15 - m + 1, RI.next hm, ho1, hb1⟩
      case measure => simp [intOf]

def digB (d : Nat) : UInt8 := UInt8.ofNat (if d < 10 then 48 + d else 87 + d)
def hexB (x : Nat) : List UInt8 := (List.range 16).map fun j => digB (x / 16 ^ (15 - j) % 16)
def textB (p q : Nat) : List UInt8 := hexB p ++ 44 :: hexB q
def byteV (b : UInt8) : Value := .int .u8 (b.toNat : Int)
theorem dig_byte (d : Nat) (h : d < 16) : dig d = byteV (digB d) := by
  unfold dig byteV digB
  rw [UInt8.toNat_ofNat_of_lt' (by split <;> simp [UInt8.size] <;> omega)]
theorem hexs_bytes (x : Nat) : hexs x 16 = (hexB x).map byteV := by
  unfold hexs hexB
  rw [List.map_map]
  refine List.map_congr_left fun j _ => ?_
  exact dig_byte _ (Nat.mod_lt _ (by omega))
theorem hexB_length (x : Nat) : (hexB x).length = 16 := by simp [hexB]
theorem textB_length (p q : Nat) : (textB p q).length = 33 := by simp [textB, hexB_length]
theorem row_string (w : World) (B : Nat) (v : Value) (l : List UInt8) (hl : 0 < l.length) (h : w.ownsRow B 5 1 v l.length (l.map byteV)) :
    ∃ g cap, v = .slice (some ⟨g, 0, none⟩) l.length cap ∧ (Go.convert 72 9 (.slice (some ⟨g, 0, none⟩) l.length cap)).run Tryd.prog w = .ok (.string ⟨l.toArray⟩) w := by
  rcases h.2 with ⟨_, h0⟩ | ⟨g, cap, cur, rfl, hrest⟩
  · omega
  · refine ⟨g, cap, rfl, run_convert_bytes_back w 72 9 5 _ cap l Tryd.underlying72 Tryd.underlying5 Tryd.underlying9 ?_⟩
    intro j hj
    refine h.cells rfl j _ ?_
    simp [hj, byteV]

set_option maxHeartbeats 400000 in
theorem text_any (p q : Nat) (w : World) (hp : p < 18446744073709551616) (hq : q < 18446744073709551616) :
    Calls Tryd.prog 42 #[.complex .f64 p q] w fun e w' => e = .returned (.string ⟨(textB p q).toArray⟩) ∧ Below w.heap.size w w' := by
  obtain ⟨i0, hi0, hz0, hz1, hz2⟩ := info_parts info5
  go_enter Tryd.func42, Tryd.ntmps42
  go_wp2_with (go_at_call 33; refine (words33 _ _ _).mono ?_; rintro e w' ⟨rfl, rfl⟩)
  refine (put_any w.heap.size _ 0 [] p _ (World.ownsRow_nil _ _ _ _) (by omega) (Nat.le_refl _) hp).mono ?_
  rintro e w1 ⟨v1, rfl, ho1, hb1⟩
  go_wp2_with (at_builtin; refine wpList_append_own _ rfl (.tmp 11) (.tmp 12) _ rfl w.heap.size 5 i0 (.int .u8 0) 1 1 Tryd.underlying72 hi0 hz0 hz1 hz2 rfl (by decide) _ _ _ rfl (ho1.alloc _) ⟨w1.heap.size, 0, none⟩ 1 1 [.int .u8 44] rfl rfl (cell_one_new _ _ _) ?c2 ?c3 ?c4 ?c5 ?_)
  case c2 => intro u hu; simp only [List.mem_singleton] at hu; subst hu; rfl
  case c3 => decide
  case c4 => decide
  case c5 => simp; exact Nat.le_succ_of_le hb1.size
  intro v2 w2 ho2 hg2 _
  have hb2 : Below w.heap.size w w2 := (hb1.alloc hb1.size _).grown hg2 (by simp; exact Nat.le_succ_of_le hb1.size) (fun k hk => (ho1.lt k hk).1)
  clear hg2
  go_wp2_with fail
  refine (put_any w.heap.size _ 17 _ q _ ho2 (by omega) hb2.size hq).mono ?_
  rintro e w3 ⟨v3, rfl, ho3, hb3⟩
  have hb := hb2.trans hb3
  have erow : hexs p 16 ++ [Value.int .u8 44] ++ hexs q 16 = (textB p q).map byteV := by
    rw [hexs_bytes, hexs_bytes]; simp [textB, byteV]
  have ho3' : w3.ownsRow w.heap.size 5 1 v3 (textB p q).length ((textB p q).map byteV) := by
    rw [textB_length, ← erow]; simpa using ho3
  clear ho3
  have hcv := row_string w3 _ _ _ (by rw [textB_length]; omega) ho3'
  obtain ⟨g, cap, hv, hcv⟩ := hcv
  rw [textB_length] at hv hcv
  rw [hv]
  clear hv ho3' erow ho2 ho1
  go_wp2
  go_ret
  exact ⟨rfl, hb⟩
end Go.Proofs.YtacfddlclbelmaaDoor.Tx
