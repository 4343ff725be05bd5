/- The closure: which volatile objects writes reach: Index, Contains, add. -/
import Derived.Test.YtgkjhnilgmokiaaHp
import Derived.Maps.AppendAt
namespace Go.Proofs.Ytgkjhnilgmokiaa.Cl
open Go.RowKit Go.Proofs.YtgkjhnilgmokiaaW.PrintWords Go.Proofs.Ytgkjhnilgmokiaa.Ha Go.Proofs.Ytgkjhnilgmokiaa.Hp

def vol (o : Int) : Bool := decide (o < 0) && decide (-64 ≤ o)
def stp (out : List Int) (o : Int) : List Int := if vol o = true ∧ o ∉ out then out ++ [o] else out
def addL (out xs : List Int) : List Int := xs.foldl stp out
/-- A row is read: cell by cell. -/
def Rd (w : World) (A : Option Addr) (l : List Int) : Prop := ∀ i, i < l.length → ∃ ad, A = some ad ∧ w.cell? (ad.add i) = some (.int .i64 (l.getD i 0))
theorem Rd.below {w w' : World} {A : Option Addr} {l : List Int} (h : Rd w A l) (hb : ∀ k, k < w.heap.size → w'.heap[k]? = w.heap[k]?) : Rd w' A l := by
  intro i hi
  obtain ⟨ad, e, hc⟩ := h i hi
  refine ⟨ad, e, ?_⟩
  rw [← hc]
  have hlt : (ad.add i).block < w.heap.size := by
    cases hh : w.heap[(ad.add i).block]? with
    | none =>
      unfold World.cell? at hc
      rw [hh] at hc
      simp at hc
    | some x => exact (Array.getElem?_eq_some_iff.1 hh).1
  unfold World.cell?
  rw [hb _ hlt]
theorem index_any (A : Option Addr) (c : Nat) (l : List Int) (x : Int) (w : World) (hl : l.length ≤ 1000000) (h : Rd w A l) :
    Calls Try.prog 40 #[.slice A l.length c, .int .i64 x] w fun e w' => (∃ i : Int, e = .returned (.int .i64 i) ∧ ((i = -1 ∧ x ∉ l) ∨ ∃ n : Nat, i = (n : Int) ∧ n < l.length ∧ l.getD n 0 = x)) ∧ w = w' := by
  have H := Lib.hid h
  clear h
  go_enter Try.func40, Try.ntmps40
  go_wp2
  go_loop [8] (fun i => ∃ k : Nat, k ≤ l.length ∧ i = .int .i64 (k : Int) ∧ ∀ j, j < k → l.getD j 0 ≠ x) (fun i => l.length - (intOf i).toNat)
  case atStart => exact ⟨0, by omega, rfl, fun j hj => by omega⟩
  case round =>
    obtain ⟨k, hk, rfl, hno⟩ := hrel
    have HN := Lib.hid hno
    clear hno
    by_cases hlt : k < l.length
    · obtain ⟨ad, rfl, hc⟩ := H.out k hlt
      cases e1 : (x == l.getD k 0)
      · have hst : ∀ j, j < k + 1 → l.getD j 0 ≠ x := by
          intro j hj
          by_cases e : j = k
          · subst e
            exact fun e => by rw [e, beq_self_eq_true] at e1; cases e1
          · exact HN.out j (by omega)
        have HE := Lib.hid hst
        clear hst HN
        generalize l.getD k 0 = y at hc e1
        go_wp2
        go_round
        case rel => exact ⟨k + 1, by omega, by go_num, HE.out⟩
        case measure => simp [intOf]; omega
      · have hy := beq_iff_eq.1 e1
        have HY := Lib.hid hy.symm
        clear hy HN
        generalize hyy : l.getD k 0 = y at hc e1
        have HYY := Lib.hid hyy
        clear hyy
        go_wp2
        go_ret
        exact ⟨⟨_, rfl, .inr ⟨k, rfl, hlt, HY.out⟩⟩, rfl⟩
    · obtain rfl : k = l.length := by omega
      have hx : x ∉ l := by
        intro hx
        obtain ⟨n, hn, e⟩ := List.mem_iff_getElem.1 hx
        refine HN.out n hn ?_
        rw [List.getD_eq_getElem?_getD, List.getElem?_eq_getElem hn]
        exact e
      have HX := Lib.hid hx
      clear hx HN
      go_wp2
      go_ret
      exact ⟨⟨_, rfl, .inl ⟨rfl, HX.out⟩⟩, rfl⟩
theorem contains_any (A : Option Addr) (c : Nat) (l : List Int) (x : Int) (w : World) (hl : l.length ≤ 1000000) (h : Rd w A l) :
    Calls Try.prog 43 #[.slice A l.length c, .int .i64 x] w fun e w' => e = .returned (.bool (decide (x ∈ l))) ∧ w = w' := by
  go_enter Try.func43, Try.ntmps43
  go_wp2_with fail
  refine (index_any A c l x w hl h).mono ?_
  rintro e w' ⟨⟨i, rfl, hi⟩, rfl⟩
  have hd : (decide ((0 : Int) ≤ i)) = decide (x ∈ l) := by
    rcases hi with ⟨rfl, hx⟩ | ⟨n, rfl, hn, e⟩
    · rw [decide_eq_false hx]; rfl
    · have hm : x ∈ l := by
        rw [← e, List.getD_eq_getElem?_getD, List.getElem?_eq_getElem hn]
        exact List.getElem_mem hn
      rw [decide_eq_true hm]
      exact decide_eq_true (by omega)
  clear hi
  go_wp2
  go_ret
  exact ⟨rfl, rfl⟩
theorem vol_any (x : Int) (w : World) : Calls Try.prog 42 #[.int .i64 x] w fun e w' => e = .returned (.bool (vol x)) ∧ w = w' := by
  by_cases h0 : x < 0
  · by_cases h1 : -64 ≤ x
    · have e : vol x = true := by simp [vol, h0, h1]
      rw [e]
      go_enter Try.func42, Try.ntmps42
      go_wp2
      go_ret
      exact ⟨rfl, rfl⟩
    · have e : vol x = false := by simp [vol, h1]
      rw [e]
      go_enter Try.func42, Try.ntmps42
      go_wp2
      go_ret
      exact ⟨rfl, rfl⟩
  · have e : vol x = false := by simp [vol, h0]
    rw [e]
    go_enter Try.func42, Try.ntmps42
    go_wp2
    go_ret
    exact ⟨rfl, rfl⟩
theorem own_rd {w : World} {base n : Nat} {v : Value} {l : List Int} (h : w.ownsRow base 3 1 v n (l.map (Value.int .i64))) : n = l.length ∧ ∃ A c, v = .slice A l.length c ∧ Rd w A l := own_int h
theorem addL_snoc (out xs : List Int) (x : Int) : addL out (xs ++ [x]) = stp (addL out xs) x := by
  unfold addL
  rw [List.foldl_append]
  rfl
theorem stp_le (out : List Int) (x : Int) : (stp out x).length ≤ out.length + 1 := by
  unfold stp
  split
  · simp
  · omega
theorem addL_le (out xs : List Int) : (addL out xs).length ≤ out.length + xs.length := by
  unfold addL
  induction xs generalizing out with
  | nil => simp
  | cons x xs ih =>
    rw [List.foldl_cons]
    have h1 := ih (stp out x)
    have h2 := stp_le out x
    rw [List.length_cons]
    omega
/-- Where a row lies behind appends to s: in s's block, or in a new one. -/
def At (w : World) (s v : Value) : Prop := v.ownBlock = s.ownBlock ∨ ∃ b, v.ownBlock = some b ∧ w.heap.size ≤ b
theorem grown_at {w wr w1 : World} {s v : Value} (hg : w.grownBy wr s.ownBlock) (ha : At w s v) (h1 : wr.grownBy w1 v.ownBlock) : w.grownBy w1 s.ownBlock := by
  refine ⟨h1.os.trans hg.os, h1.tape.trans hg.tape, h1.output.trans hg.output, Nat.le_trans hg.size h1.size, fun i hi hne => ?_⟩
  refine (h1.block i (Nat.lt_of_lt_of_le hi hg.size) ?_).trans (hg.block i hi hne)
  rcases ha with ha | ⟨b, hb, hle⟩
  · rw [ha]; exact hne
  · rw [hb]
    intro e
    injection e with e
    omega
theorem take_next (l : List Int) (k : Nat) (h : k < l.length) : l.take (k + 1) = l.take k ++ [l.getD k 0] := by
  rw [List.take_add_one, List.getD_eq_getElem?_getD, List.getElem?_eq_getElem h]
  rfl
set_option maxHeartbeats 1000000 in
theorem add_any (base : Nat) (s : Value) (out l : List Int) (A : Option Addr) (c : Nat) (w : World) (ho : w.ownsRow base 3 1 s out.length (out.map (Value.int .i64))) (hsz : out.length + l.length ≤ 1000000)
    (hr : ∀ W, w.grownBy W s.ownBlock → Rd W A l) (hbase : base ≤ w.heap.size) :
    Calls Try.prog 36 #[s, .slice A l.length c] w fun e w' => ∃ v, e = .returned v ∧ w'.ownsRow base 3 1 v (addL out l).length ((addL out l).map (Value.int .i64)) ∧ w.grownBy w' s.ownBlock ∧ At w s v := by
  obtain ⟨i0, hi0, hz0, hz1, hz2⟩ := info_parts info3
  have HR := Lib.hid hr
  clear hr
  go_enter Try.func36, Try.ntmps36
  go_wp2
  go_loopw [0, 9] (fun v i wr => ∃ k : Nat, k ≤ l.length ∧ i = .int .i64 (k : Int) ∧ wr.ownsRow base 3 1 v (addL out (l.take k)).length ((addL out (l.take k)).map (Value.int .i64)) ∧ w.grownBy wr s.ownBlock ∧ At w s v) (fun _ i _ => l.length - (intOf i).toNat)
  case atStart => exact ⟨0, by omega, rfl, ho, grown_refl _ _, .inl rfl⟩
  case round =>
    obtain ⟨k, hk, rfl, ho, hg, hat⟩ := hrel
    by_cases hlt : k < l.length
    · obtain ⟨ad, rfl, hc⟩ := HR.out _ hg k hlt
      have hle := addL_le out (l.take k)
      rw [List.length_take] at hle
      have e1 : addL out (l.take (k + 1)) = stp (addL out (l.take k)) (l.getD k 0) := by rw [take_next l k hlt, addL_snoc]
      have E1 := Lib.hid e1
      clear e1
      generalize addL out (l.take k) = L at ho hle E1
      generalize l.getD k 0 = x at hc E1
      obtain ⟨_, A5, c5, rfl, hrd⟩ := own_rd ho
      have HO := Lib.hid ho
      have HRD := Lib.hid hrd
      clear ho hrd
      go_wp2_with fail
      refine (vol_any _ _).mono ?_
      rintro e w1 ⟨rfl, rfl⟩
      cases ev : vol x
      · have e2 : stp L x = L := by unfold stp; rw [if_neg (fun h => by rw [ev] at h; cases h.1)]
        have E2 := Lib.hid e2
        clear e2 ev
        go_wp2
        go_roundw
        case rel => exact ⟨k + 1, by omega, by go_num, by rw [E1.out, E2.out]; exact HO.out, hg, hat⟩
        case measure => simp [intOf]; omega
      · go_wp2_with fail
        refine (contains_any _ _ _ _ _ (by omega) HRD.out).mono ?_
        rintro e w1 ⟨rfl, rfl⟩
        by_cases hm : x ∈ L
        · have e2 : stp L x = L := by unfold stp; rw [if_neg (fun h => h.2 hm)]
          rw [decide_eq_true hm]
          have E2 := Lib.hid e2
          clear e2 ev hm
          go_wp2
          go_roundw
          case rel => exact ⟨k + 1, by omega, by go_num, by rw [E1.out, E2.out]; exact HO.out, hg, hat⟩
          case measure => simp [intOf]; omega
        · have e2 : stp L x = L ++ [x] := by unfold stp; rw [if_pos ⟨ev, hm⟩]
          rw [decide_eq_false hm]
          have E2 := Lib.hid e2
          have hgs := hg.size
          clear e2 ev hm
          go_wp2_with (at_builtin; refine wpList_append_own_at _ rfl (.tmp 21) (.tmp 23) _ rfl base 3 i0 (.int .i64 0) 1 8 Try.underlying27 hi0 hz0 hz1 hz2 rfl (by decide) _ _ _ rfl (HO.out.alloc _) ⟨wr.heap.size, 0, none⟩ 1 1 [.int .i64 x] rfl rfl ?c1 ?c2 ?c3 ?c4 ?c5 ?_)
          case c1 => exact cell_one_new _ _ _
          case c2 => intro v hv; simp only [List.mem_singleton] at hv; subst hv; rfl
          case c3 => simp only [maxLen]; omega
          case c4 => omega
          case c5 => rw [size_al]; omega
          intro v' w4 ho1 hg1 _ hat1
          have hgA := grown_at hg hat (World.grownBy.trans (World.grownBy_alloc _ _ _) hg1)
          have hat2 : At w s v' := by
            rcases hat1 with h | h
            · rcases hat with h2 | ⟨b, h2, h3⟩
              · exact .inl (h.trans h2)
              · exact .inr ⟨b, h.trans h2, h3⟩
            · exact .inr ⟨_, h, by omega⟩
          have ho2 : w4.ownsRow base 3 1 v' (addL out (l.take (k + 1))).length ((addL out (l.take (k + 1))).map (Value.int .i64)) := by
            rw [E1.out, E2.out, List.map_append, List.length_append]; exact ho1
          clear hg1 ho1 hat1
          go_wp2
          go_roundw
          case rel => exact ⟨k + 1, by omega, by go_num, ho2, hgA, hat2⟩
          case measure => simp [intOf]; omega
    · obtain rfl : k = l.length := by omega
      rw [List.take_length] at ho
      go_wp2
      go_ret
      exact ⟨_, rfl, ho, hg, hat⟩
end Go.Proofs.Ytgkjhnilgmokiaa.Cl
