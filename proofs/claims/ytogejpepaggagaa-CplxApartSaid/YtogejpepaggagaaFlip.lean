/- The sign bit turned: what it does to a word, and to sums and products. -/
import Derived.Test.YtogejpepaggagaaPow
import Derived.Laws.BitsAllLaws
namespace Go.Proofs.Ytogejpepaggagaa.Cx
open Ieee

def flip (y : Nat) : Nat := (Go.bits .xor .u64 (y : Int) 9223372036854775808).toNat

theorem flip_xor (y : Nat) (h : y < 18446744073709551616) : flip y = y ^^^ 9223372036854775808 := by
  unfold flip
  have := u64_xor_nat y 9223372036854775808 h (by decide)
  rw [show ((9223372036854775808 : Nat) : Int) = 9223372036854775808 from rfl] at this
  rw [this, Int.toNat_natCast]
theorem flip_mod (y : Nat) (h : y < 18446744073709551616) : flip y % 9223372036854775808 = y % 9223372036854775808 := by
  rw [flip_xor y h]
  have := Nat.xor_mod_two_pow (a := y) (b := 9223372036854775808) (n := 63)
  rw [show (2 ^ 63 : Nat) = 9223372036854775808 from rfl] at this
  rw [this, Nat.mod_self, Nat.xor_zero]
theorem flip_div (y : Nat) (h : y < 18446744073709551616) : flip y / 9223372036854775808 = 1 - y / 9223372036854775808 := by
  rw [flip_xor y h]
  have := Nat.xor_div_two_pow (a := y) (b := 9223372036854775808) (n := 63)
  rw [show (2 ^ 63 : Nat) = 9223372036854775808 from rfl] at this
  rw [this]
  have h1 : y / 9223372036854775808 = 0 ∨ y / 9223372036854775808 = 1 := by omega
  rw [show (9223372036854775808 / 9223372036854775808 : Nat) = 1 from rfl]
  rcases h1 with h1 | h1 <;> rw [h1] <;> decide
theorem flip_lt (y : Nat) (h : y < 18446744073709551616) : flip y < 18446744073709551616 := by
  have := flip_div y h
  omega
theorem flip_flip (y : Nat) (h : y < 18446744073709551616) : flip (flip y) = y := by
  rw [flip_xor _ (flip_lt y h), flip_xor y h, Nat.xor_assoc, Nat.xor_self, Nat.xor_zero]

theorem read_flip (y : Nat) (h : y < 18446744073709551616) : double.read (flip y) = (double.read y).opposite := by
  have h1 : y / 9223372036854775808 = 0 ∨ y / 9223372036854775808 = 1 := by omega
  have hs : (flip y / 9223372036854775808 % 2 == 1) = !(y / 9223372036854775808 % 2 == 1) := by
    rw [flip_div y h]
    rcases h1 with h1 | h1 <;> rw [h1] <;> rfl
  rw [double_read, double_read, flip_mod y h, hs]
  split
  · rfl
  · split
    · rfl
    · split <;> rfl

theorem flip_is {y : Nat} {b : Int} (h : y < 18446744073709551616) (hy : Is y b) : Is (flip y) (-b) := by
  obtain ⟨s, m, i, h1, h2⟩ := opp_is hy
  exact ⟨s, m, i, by rw [read_flip y h, h1], h2⟩

theorem write_lt64 (d : Datum) : double.write d < 18446744073709551616 := double.write_lt d
theorem word_opp (s : Bool) (r : Nat) (hr : r < 9223372036854775808) : double.word (!s) r = flip (double.word s r) := by
  have hs : double.signWeight = 9223372036854775808 := by decide
  have hw : double.word s r < 18446744073709551616 := by
    unfold Format.word; rw [hs]; split <;> omega
  have h1 := flip_mod _ hw
  have h2 := flip_div _ hw
  have e1 : double.word s r % 9223372036854775808 = r := by
    unfold Format.word; rw [hs]; split <;> omega
  have e3 : double.word s r / 9223372036854775808 = s.toNat := by
    unfold Format.word; rw [hs]; cases s
    · rw [if_neg (by decide)]; exact Nat.div_eq_of_lt hr
    · rw [if_pos rfl]; show _ = 1; omega
  have e2 : double.word (!s) r = (1 - s.toNat) * 9223372036854775808 + r := by
    unfold Format.word; rw [hs]; cases s <;> simp
  rw [e1] at h1
  rw [e3] at h2
  rw [e2]
  have := Nat.div_add_mod (flip (double.word s r)) 9223372036854775808
  rw [h1, h2] at this
  rw [← this, Nat.mul_comm]
theorem write_opp (d : Datum) (hd : d.isNaN = false) : double.write d.opposite = flip (double.write d) := by
  have hi : double.infRung = 9218868437227405312 := by decide
  cases d with
  | nan s f => cases hd
  | infinity s => exact word_opp s _ (by rw [hi]; omega)
  | number s m p =>
    show double.nearest (!s) m p = flip (double.nearest s m p)
    unfold Format.nearest
    dsimp only
    split
    · exact word_opp s 0 (by omega)
    · have hc : ∀ (n d : Nat), Toward.even.cut (!s) n d = Toward.even.cut s n d := fun _ _ => rfl
      rw [hc]
      exact word_opp s _ (Nat.lt_of_le_of_lt (Nat.min_le_right _ _) (by rw [hi]; omega))

theorem mul_flip2 (x y : Nat) (hx : x < 18446744073709551616) (hy : y < 18446744073709551616) : floatBits .mul .f64 (flip x) (flip y) = floatBits .mul .f64 x y := by
  show ((double.read (flip x)).product (double.read (flip y))).map double.write = ((double.read x).product (double.read y)).map double.write
  rw [read_flip x hx, read_flip y hy]
  congr 1
  cases double.read x <;> cases double.read y <;> simp [Datum.opposite, Datum.product]
theorem mul_flip (x y : Nat) (hy : y < 18446744073709551616) : floatBits .mul .f64 x (flip y) = (floatBits .mul .f64 x y).map flip := by
  show ((double.read x).product (double.read (flip y))).map double.write = (((double.read x).product (double.read y)).map double.write).map flip
  rw [read_flip y hy, Option.map_map]
  have h : (double.read x).product (double.read y).opposite = ((double.read x).product (double.read y)).map Datum.opposite := by
    cases double.read x <;> cases double.read y <;> simp [Datum.opposite, Datum.product]
    all_goals (split <;> simp [Datum.opposite])
  rw [h, Option.map_map]
  cases hp : (double.read x).product (double.read y) with
  | none => rfl
  | some d => simp only [Option.map_some, Function.comp]; rw [write_opp d (product_not_nan _ _ hp)]
theorem mul_comm' (x y : Nat) : floatBits .mul .f64 x y = floatBits .mul .f64 y x := by
  show ((double.read x).product (double.read y)).map double.write = ((double.read y).product (double.read x)).map double.write
  congr 1
  cases double.read x <;> cases double.read y <;> simp [Datum.product, Bool.xor_comm, Nat.mul_comm, Int.add_comm]
theorem flip_mul (x y : Nat) (hx : x < 18446744073709551616) : floatBits .mul .f64 (flip x) y = (floatBits .mul .f64 x y).map flip := by
  rw [mul_comm', mul_flip y x hx, mul_comm']
theorem add_comm' (x y : Nat) : floatBits .add .f64 x y = floatBits .add .f64 y x := by
  show ((double.read x).sum (double.read y)).map double.write = ((double.read y).sum (double.read x)).map double.write
  congr 1
  cases double.read x <;> cases double.read y <;> simp [Datum.sum]
  · rename_i s m i t n j
    have e1 : min i j = min j i := by omega
    rw [e1]
    generalize signed s m (i - min j i).toNat = a
    generalize signed t n (j - min j i).toNat = b
    rw [Int.add_comm a b, Bool.and_comm s t]
    exact ⟨rfl, rfl, rfl⟩
  · rename_i s t
    by_cases h : s = t
    · subst h; rfl
    · have h' : ¬ t = s := fun e => h e.symm
      simp [h, h']

/-- Both no numbers, or equal as numbers are. -/
def Alike (x y : Nat) : Prop := ((double.read x).isNaN = true ∧ (double.read y).isNaN = true) ∨ ((double.read x).isNaN = false ∧ (double.read y).isNaN = false ∧ double.order x y = some .eq)
theorem Alike.self (x : Nat) : Alike x x := by
  cases h : (double.read x).isNaN with
  | true => exact .inl ⟨h, h⟩
  | false => exact .inr ⟨h, h, order_self x h⟩

theorem signed_not (s : Bool) (m u : Nat) : signed (!s) m u = - signed s m u := by
  unfold signed; cases s <;> simp

theorem zero_alike (s t : Bool) (p q : Int) : Alike (double.nearest s 0 p) (double.nearest t 0 q) := by
  have h : ∀ (s : Bool) (p : Int), double.read (double.nearest s 0 p) = .number s 0 (-1074) := by
    intro s p
    unfold Format.nearest
    rw [if_pos rfl, read_word s 0 (by omega)]
    rfl
  refine .inr ⟨by rw [h]; rfl, by rw [h]; rfl, ?_⟩
  unfold Format.order
  rw [h, h]
  cases s <;> cases t <;> decide

theorem sum_opp (a b : Datum) : (a.sum b = none ∧ a.opposite.sum b.opposite = none) ∨ (∃ d, a.sum b = some d ∧ a.opposite.sum b.opposite = some d.opposite) ∨
    (∃ s t p, a.sum b = some (.number s 0 p) ∧ a.opposite.sum b.opposite = some (.number t 0 p)) := by
  cases a <;> cases b <;> simp only [Datum.opposite, Datum.sum]
  case number.number s m i t n j =>
    rw [signed_not, signed_not]
    generalize signed s m (i - min i j).toNat = x
    generalize signed t n (j - min i j).toNat = y
    by_cases h : x + y = 0
    · refine .inr (.inr ⟨s && t, !s && !t, min i j, ?_, ?_⟩)
      · rw [if_pos h, h]; rfl
      · have h' : -x + -y = 0 := by omega
        rw [if_pos h', h']; rfl
    · refine .inr (.inl ⟨_, rfl, ?_⟩)
      have h' : ¬ (-x + -y = 0) := by omega
      rw [if_neg h, if_neg h']
      have e1 : (-x + -y).natAbs = (x + y).natAbs := by omega
      have e2 : decide (-x + -y < 0) = !decide (x + y < 0) := by
        by_cases hlt : x + y < 0
        · have : ¬ (-x + -y < 0) := by omega
          simp [hlt, this]
        · have : -x + -y < 0 := by omega
          simp [hlt, this]
      rw [e1, e2]
  case infinity.infinity s t =>
    by_cases h : s = t
    · subst h; exact .inr (.inl ⟨.infinity s, by simp, by simp⟩)
    · exact .inl ⟨by simp [h], by simp [h]⟩
  all_goals first
    | exact .inl ⟨rfl, rfl⟩
    | exact .inl ⟨trivial, trivial⟩
    | exact .inr (.inl ⟨_, rfl, rfl⟩)

theorem add_flip (u v : Nat) (hu : u < 18446744073709551616) (hv : v < 18446744073709551616) :
    Alike (flip (res (floatBits .add .f64 u v))) (res (floatBits .add .f64 (flip u) (flip v))) := by
  have e1 : floatBits .add .f64 u v = ((double.read u).sum (double.read v)).map double.write := rfl
  have e2 : floatBits .add .f64 (flip u) (flip v) = ((double.read u).opposite.sum (double.read v).opposite).map double.write := by
    show ((double.read (flip u)).sum (double.read (flip v))).map double.write = _
    rw [read_flip u hu, read_flip v hv]
  rw [e1, e2]
  rcases sum_opp (double.read u) (double.read v) with ⟨h1, h2⟩ | ⟨d, h1, h2⟩ | ⟨s, t, p, h1, h2⟩
  · rw [h1, h2]
    refine .inl ⟨?_, nanC_isNaN⟩
    show (double.read (flip nanC)).isNaN = true
    rw [read_flip nanC (by decide), opp_isNaN]
    exact nanC_isNaN
  · rw [h1, h2]
    show Alike (flip (double.write d)) (double.write d.opposite)
    rw [write_opp d (sum_not_nan _ _ h1)]
    exact Alike.self _
  · rw [h1, h2]
    show Alike (flip (double.nearest s 0 p)) (double.nearest t 0 p)
    have : double.nearest (!s) 0 p = flip (double.nearest s 0 p) := write_opp (.number s 0 p) rfl
    rw [← this]
    exact zero_alike _ _ _ _

theorem res_lt {o : Option Nat} (h : ∀ r, o = some r → r < 18446744073709551616) : res o < 18446744073709551616 := by
  cases o with
  | none => decide
  | some r => exact h r rfl
theorem op_lt {op : BinOp} {x y r : Nat} (h : floatBits op .f64 x y = some r) : r < 18446744073709551616 := by
  unfold floatBits at h
  split at h
  · exact Ieee.Format.add_lt _ h
  · exact Ieee.Format.sub_lt _ h
  · exact Ieee.Format.mul_lt _ h
  · exact Ieee.Format.div_lt _ h
  · cases h
theorem opq_lt {op : BinOp} {a b : Option Nat} {r : Nat} (h : opq op a b = some r) : r < 18446744073709551616 := by
  unfold opq at h
  cases a with
  | none => cases h
  | some a =>
    cases b with
    | none => cases h
    | some b => exact op_lt h
theorem opq_flip (a b : Option Nat) (ha : ∀ r, a = some r → r < 18446744073709551616) (hb : ∀ r, b = some r → r < 18446744073709551616) :
    Alike (flip (res (opq .add a b))) (res (opq .add (a.map flip) (b.map flip))) := by
  have hn : Alike (flip (res none)) (res none) := by
    refine .inl ⟨?_, nanC_isNaN⟩
    show (double.read (flip nanC)).isNaN = true
    rw [read_flip nanC (by decide), opp_isNaN]
    exact nanC_isNaN
  cases a with
  | none => exact hn
  | some a =>
    cases b with
    | none => exact hn
    | some b => exact add_flip a b (ha a rfl) (hb b rfl)
theorem mul_conj_im (p q r s : Nat) (hq : q < 18446744073709551616) (hs : s < 18446744073709551616) :
    Alike (flip (res (opq .add (floatBits .mul .f64 p s) (floatBits .mul .f64 q r)))) (res (opq .add (floatBits .mul .f64 p (flip s)) (floatBits .mul .f64 (flip q) r))) := by
  rw [mul_flip p s hs, flip_mul q r hq]
  exact opq_flip _ _ (fun _ h => op_lt h) (fun _ h => op_lt h)
end Go.Proofs.Ytogejpepaggagaa.Cx
