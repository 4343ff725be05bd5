/-
  Two trimmed graphs have one text just if they are the same, in plain lists.
-/
import Derived.Test.YtdgclpgjoanimaaDoorTg
import Derived.Test.YtdgclpgjoanimaaDoorDc
import Derived.Test.YtdgclpgjoanimaaDoorSm
import Derived.Test.YtdgclpgjoanimaaDoorEq
namespace Go.Proofs.YtdgclpgjoanimaaDoor.Ti
open Go.Proofs.YtdgclpgjoanimaaDoor.Ba Go.Proofs.YtdgclpgjoanimaaDoor.Ma Go.Proofs.YtdgclpgjoanimaaDoor.Mb Go.Proofs.YtdgclpgjoanimaaDoor.Pu Go.Proofs.YtdgclpgjoanimaaDoor.To Go.Proofs.YtdgclpgjoanimaaDoor.Tr Go.Proofs.YtdgclpgjoanimaaDoor.Eq Go.Proofs.YtdgclpgjoanimaaDoor.Hx Go.Proofs.YtdgclpgjoanimaaDoor.Tb Go.Proofs.YtdgclpgjoanimaaDoor.Tg Go.ChangeShapes Go.WideShapes
set_option linter.unusedVariables false
set_option linter.unusedSimpArgs false
set_option maxRecDepth 100000
theorem split_at {c : UInt8} : ∀ (a b r s : List UInt8), c ∉ a → c ∉ b → a ++ c :: r = b ++ c :: s → a = b ∧ r = s := by
  intro a
  induction a with
  | nil =>
    intro b r s _ hb h
    cases b with
    | nil => injection h with _ h; exact ⟨rfl, h⟩
    | cons x b => injection h with h _; exact absurd (by rw [h]; exact List.mem_cons_self ..) hb
  | cons x a ih =>
    intro b r s ha hb h
    cases b with
    | nil => injection h with h _; exact absurd (by rw [h]; exact List.mem_cons_self ..) ha
    | cons y b =>
      injection h with h1 h2
      obtain ⟨e1, e2⟩ := ih b r s (fun hm => ha (List.mem_cons_of_mem _ hm)) (fun hm => hb (List.mem_cons_of_mem _ hm)) h2
      exact ⟨by rw [h1, e1], e2⟩
theorem lines_inj : ∀ A B : List (List UInt8), (∀ l ∈ A, (10 : UInt8) ∉ l) → (∀ l ∈ B, (10 : UInt8) ∉ l) → (A.map (· ++ [10])).flatten = (B.map (· ++ [10])).flatten → A = B := by
  intro A
  induction A with
  | nil =>
    intro B _ _ h
    cases B with
    | nil => rfl
    | cons b B => simp at h
  | cons a A ih =>
    intro B hA hB h
    cases B with
    | nil => simp at h
    | cons b B =>
      simp only [List.map_cons, List.flatten_cons, List.append_assoc, List.singleton_append] at h
      obtain ⟨e1, e2⟩ := split_at _ _ _ _ (hA a (List.mem_cons_self ..)) (hB b (List.mem_cons_self ..)) h
      rw [e1, ih B (fun l hl => hA l (List.mem_cons_of_mem _ hl)) (fun l hl => hB l (List.mem_cons_of_mem _ hl)) e2]
def fl (l : List (List UInt8)) : List UInt8 := (l.map fun w => 32 :: w).flatten
theorem words_inj : ∀ (A B : List (List UInt8)) (u v : List UInt8), (32 : UInt8) ∉ u → (32 : UInt8) ∉ v → (∀ l ∈ A, (32 : UInt8) ∉ l) → (∀ l ∈ B, (32 : UInt8) ∉ l) → u ++ fl A = v ++ fl B → u = v ∧ A = B := by
  intro A
  induction A with
  | nil =>
    intro B u v hu hv _ _ h
    cases B with
    | nil => simpa [fl] using h
    | cons b B =>
      exfalso
      apply hu
      have : u = v ++ fl (b :: B) := by simpa [fl] using h
      rw [this]
      simp [fl]
  | cons a A ih =>
    intro B u v hu hv hA hB h
    cases B with
    | nil =>
      exfalso
      apply hv
      have : v = u ++ fl (a :: A) := by simpa [fl] using h.symm
      rw [this]
      simp [fl]
    | cons b B =>
      have h' : u ++ 32 :: (a ++ fl A) = v ++ 32 :: (b ++ fl B) := by simpa [fl] using h
      obtain ⟨e1, e2⟩ := split_at _ _ _ _ hu hv h'
      obtain ⟨e3, e4⟩ := ih B a b (hA a (List.mem_cons_self ..)) (hB b (List.mem_cons_self ..)) (fun l hl => hA l (List.mem_cons_of_mem _ hl)) (fun l hl => hB l (List.mem_cons_of_mem _ hl)) e2
      exact ⟨e1, by rw [e3, e4]⟩
theorem dec_big (u : Nat) : ∀ c ∈ Lib.decDigits u, 33 ≤ c.toNat := by
  intro c hc
  rw [Lib.decDigits_eq] at hc
  obtain ⟨t, _, rfl⟩ := List.mem_map.1 hc
  unfold Lib.dg
  rw [UInt8.toNat_ofNat_of_lt' (by simp [UInt8.size]; omega)]
  omega
theorem itoa_big (n : Int) : ∀ c ∈ Lib.itoa n, 33 ≤ c.toNat := by
  intro c hc
  unfold Lib.itoa at hc
  split at hc
  · rcases List.mem_cons.1 hc with rfl | hc
    · decide
    · exact dec_big _ c hc
  · exact dec_big _ c hc
theorem dig_big (d : Nat) (h : d < 16) : 33 ≤ (digB d).toNat := by
  unfold digB
  rw [UInt8.toNat_ofNat_of_lt' (by split <;> simp [UInt8.size] <;> omega)]
  split <;> omega
theorem hex_big (x : Nat) : ∀ c ∈ hexB x, 33 ≤ c.toNat := by
  intro c hc
  obtain ⟨j, _, rfl⟩ := List.mem_map.1 hc
  exact dig_big _ (Nat.mod_lt _ (by omega))
theorem text_big (v : V5) : ∀ c ∈ textV v, 33 ≤ c.toNat := by
  intro c hc
  unfold textV at hc
  split at hc
  · exact itoa_big _ c hc
  · split at hc
    · rcases List.mem_cons.1 hc with rfl | hc
      · decide
      · rcases List.mem_append.1 (show c ∈ hexB _ ++ 44 :: hexB _ from hc) with hc | hc
        · exact hex_big _ c hc
        · rcases List.mem_cons.1 hc with rfl | hc
          · decide
          · exact hex_big _ c hc
    · split at hc
      · rcases List.mem_cons.1 hc with rfl | hc
        · decide
        · exact itoa_big _ c hc
      · simp only [List.mem_cons, List.not_mem_nil, or_false] at hc
        rcases hc with rfl | rfl | rfl <;> decide
theorem no32 {l : List UInt8} (h : ∀ c ∈ l, 33 ≤ c.toNat) : (32 : UInt8) ∉ l := fun hm => by have := h _ hm; revert this; decide
theorem no10 {l : List UInt8} (h : ∀ c ∈ l, 33 ≤ c.toNat) : (10 : UInt8) ∉ l := fun hm => by have := h _ hm; revert this; decide
theorem digB_inj {a b : Nat} (ha : a < 16) (hb : b < 16) (h : digB a = digB b) : a = b := by
  have h' := congrArg UInt8.toNat h
  unfold digB at h'
  rw [UInt8.toNat_ofNat_of_lt' (by split <;> simp [UInt8.size] <;> omega), UInt8.toNat_ofNat_of_lt' (by split <;> simp [UInt8.size] <;> omega)] at h'
  split at h' <;> split at h' <;> omega
theorem hexB_inj {x y : Nat} (hx : x < 18446744073709551616) (hy : y < 18446744073709551616) (h : hexB x = hexB y) : x = y := by
  have hd : ∀ j, j < 16 → x / 16 ^ (15 - j) % 16 = y / 16 ^ (15 - j) % 16 := fun j hj => by
    have h1 : (hexB x)[j]? = (hexB y)[j]? := by rw [h]
    unfold hexB at h1
    rw [List.getElem?_map, List.getElem?_map, List.getElem?_range hj] at h1
    simp only [Option.map_some, Option.some.injEq] at h1
    exact digB_inj (Nat.mod_lt _ (by omega)) (Nat.mod_lt _ (by omega)) h1
  have key : ∀ k, k ≤ 16 → x / 16 ^ (16 - k) = y / 16 ^ (16 - k) := by
    intro k
    induction k with
    | zero => intro _; rw [Nat.div_eq_of_lt (by simpa using hx), Nat.div_eq_of_lt (by simpa using hy)]
    | succ k ih =>
      intro hk
      have e : 16 - k = (15 - k) + 1 := by omega
      have e2 : 16 - (k + 1) = 15 - k := by omega
      have h1 := ih (by omega)
      rw [e, Nat.pow_succ, ← Nat.div_div_eq_div_mul, ← Nat.div_div_eq_div_mul] at h1
      have h2 := hd k (by omega)
      rw [e2]
      omega
  have := key 16 (Nat.le_refl _)
  simpa using this
/-- A value as far as its kind gives a meaning. -/
def Pl (v : V5) : Prop := v = ⟨0, 0, 0, 0, 0⟩ ∨ (v.kd = 1 ∧ v.re = 0 ∧ v.im = 0 ∧ v.ref = 0) ∨ (v.kd = 2 ∧ v.n = 0 ∧ v.ref = 0) ∨ (v.kd = 3 ∧ v.n = 0 ∧ v.re = 0 ∧ v.im = 0)
def hdK (c : UInt8) : Int := if c.toNat = 110 then 0 else if c.toNat = 99 then 2 else if c.toNat = 35 then 3 else 1
theorem text_head {v : V5} (h : Pl v) : ∃ c r, textV v = c :: r ∧ hdK c = v.kd := by
  unfold textV
  rcases h with rfl | ⟨h, _⟩ | ⟨h, _⟩ | ⟨h, _⟩
  · exact ⟨_, _, rfl, rfl⟩
  · rw [if_pos h, h]
    obtain ⟨c, r, e, hc⟩ := Dc.itoa_head v.n
    refine ⟨c, r, e, ?_⟩
    unfold hdK
    rw [if_neg (by omega), if_neg (by omega), if_neg (by omega)]
  · rw [if_neg (by omega), if_pos h, h]; exact ⟨_, _, rfl, rfl⟩
  · rw [if_neg (by omega), if_neg (by omega), if_pos h, h]; exact ⟨_, _, rfl, rfl⟩
theorem v5_ext {a b : V5} (h0 : a.kd = b.kd) (h1 : a.n = b.n) (h2 : a.re = b.re) (h3 : a.im = b.im) (h4 : a.ref = b.ref) : a = b := by
  cases a; cases b; simp_all
theorem text_inj {a b : V5} (ha : Pl a) (hb : Pl b) (wa : ok5 a) (wb : ok5 b) (h : textV a = textV b) : a = b := by
  have hk : a.kd = b.kd := by
    obtain ⟨c, r, e1, h1⟩ := text_head ha
    obtain ⟨d, s, e2, h2⟩ := text_head hb
    rw [e1, e2] at h
    injection h with h _
    rw [← h1, ← h2, h]
  obtain ⟨⟨n0, n1⟩, ⟨a0, a1⟩, ⟨b0, b1⟩, r0, r1⟩ := ok5_nums wa
  obtain ⟨⟨n0', n1'⟩, ⟨a0', a1'⟩, ⟨b0', b1'⟩, r0', r1'⟩ := ok5_nums wb
  unfold textV at h
  rcases ha with ha | ⟨ha, x1, x2, x3⟩ | ⟨ha, x1, x2⟩ | ⟨ha, x1, x2, x3⟩
  · rcases hb with hb | ⟨hb, _⟩ | ⟨hb, _⟩ | ⟨hb, _⟩
    · rw [ha, hb]
    all_goals (rw [ha] at hk; exact absurd (hk.trans hb) (by decide))
  · rcases hb with hb | ⟨hb, y1, y2, y3⟩ | ⟨hb, _⟩ | ⟨hb, _⟩
    · rw [hb] at hk; exact absurd (ha.symm.trans hk) (by decide)
    · rw [if_pos ha, if_pos hb] at h
      exact v5_ext hk (Dc.itoa_inj ⟨n0, n1⟩ ⟨n0', n1'⟩ h) (x1.trans y1.symm) (x2.trans y2.symm) (x3.trans y3.symm)
    all_goals omega
  · rcases hb with hb | ⟨hb, _⟩ | ⟨hb, y1, y2⟩ | ⟨hb, _⟩
    · rw [hb] at hk; exact absurd (ha.symm.trans hk) (by decide)
    · omega
    · rw [if_neg (by omega), if_pos ha, if_neg (by omega), if_pos hb] at h
      injection h with _ h
      have h' : hexB a.re.toNat ++ 44 :: hexB a.im.toNat = hexB b.re.toNat ++ 44 :: hexB b.im.toNat := h
      have hl := List.append_inj h' (by rw [hexB_length, hexB_length])
      have e1 := hexB_inj (by omega) (by omega) hl.1
      have e2 := hexB_inj (by omega) (by omega) (List.cons.inj hl.2).2
      exact v5_ext hk (x1.trans y1.symm) (by omega) (by omega) (x2.trans y2.symm)
    · omega
  · rcases hb with hb | ⟨hb, _⟩ | ⟨hb, _⟩ | ⟨hb, y1, y2, y3⟩
    · rw [hb] at hk; exact absurd (ha.symm.trans hk) (by decide)
    · omega
    · omega
    · rw [if_neg (by omega), if_neg (by omega), if_pos ha, if_neg (by omega), if_neg (by omega), if_pos hb] at h
      injection h with _ h
      exact v5_ext hk (x1.trans y1.symm) (x2.trans y2.symm) (x3.trans y3.symm) (Dc.itoa_inj ⟨r0, r1⟩ ⟨r0', r1'⟩ h)
theorem map_inj_on {α β : Type} (f : α → β) : ∀ l m : List α, (∀ x ∈ l, ∀ y ∈ m, f x = f y → x = y) → l.map f = m.map f → l = m := by
  intro l
  induction l with
  | nil =>
    intro m _ h
    cases m with
    | nil => rfl
    | cons y m => simp at h
  | cons x l ih =>
    intro m hx h
    cases m with
    | nil => simp at h
    | cons y m =>
      simp only [List.map_cons, List.cons.injEq] at h
      rw [hx x (List.mem_cons_self ..) y (List.mem_cons_self ..) h.1, ih m (fun a ha b hb => hx a (List.mem_cons_of_mem _ ha) b (List.mem_cons_of_mem _ hb)) h.2]
def lineN (x : N2) : List UInt8 := Lib.itoa x.kd ++ fldB x.fs
theorem fld_fl (l : List V5) : fldB l = fl (l.map textV) := by simp [fldB, fl, List.map_map, Function.comp_def]
theorem ints_fl (l : List Int) : intsB l = fl (l.map Lib.itoa) := by simp [intsB, fl, List.map_map, Function.comp_def]
theorem text_lines (g : G3) : textG g = ((g.ns.map lineN ++ [rootsB ++ intsB g.rs, weaksB ++ intsB g.ws]).map (· ++ [10])).flatten := by
  have e : nodesB g.ns = ((g.ns.map lineN).map (· ++ [10])).flatten := by
    unfold nodesB
    rw [List.map_map]
    congr 1
    refine List.map_congr_left fun x _ => ?_
    simp [nodeB, lineN]
  unfold textG
  rw [List.map_append, List.flatten_append, ← e]
  simp
theorem fl_no10 {l : List (List UInt8)} (h : ∀ w ∈ l, (10 : UInt8) ∉ w) : (10 : UInt8) ∉ fl l := by
  intro hm
  obtain ⟨w, hw, hc⟩ := List.mem_flatten.1 hm
  obtain ⟨u, hu, rfl⟩ := List.mem_map.1 hw
  rcases List.mem_cons.1 hc with hc | hc
  · revert hc; decide
  · exact h u hu hc
/-- What a trimmed graph's values are. -/
structure Pg (g : G3) : Prop where
  ok : ok3 g
  pl : ∀ x ∈ g.ns, ∀ v ∈ x.fs, Pl v
theorem line_no10 (x : N2) : (10 : UInt8) ∉ lineN x := by
  unfold lineN
  rw [List.mem_append, fld_fl]
  rintro (h | h)
  · exact no10 (itoa_big _) h
  · refine fl_no10 (fun w hw => ?_) h
    obtain ⟨v, _, rfl⟩ := List.mem_map.1 hw
    exact no10 (text_big v)
theorem ints_no10 (l : List Int) : (10 : UInt8) ∉ intsB l := by
  rw [ints_fl]
  refine fl_no10 (fun w hw => ?_)
  obtain ⟨v, _, rfl⟩ := List.mem_map.1 hw
  exact no10 (itoa_big v)
theorem head_no10 {h : List UInt8} (hh : (10 : UInt8) ∉ h) (l : List Int) : (10 : UInt8) ∉ h ++ intsB l := by
  rw [List.mem_append]
  rintro (e | e)
  · exact hh e
  · exact ints_no10 l e
theorem lines_no10 (g : G3) : ∀ l ∈ g.ns.map lineN ++ [rootsB ++ intsB g.rs, weaksB ++ intsB g.ws], (10 : UInt8) ∉ l := by
  intro l hl
  rcases List.mem_append.1 hl with hl | hl
  · obtain ⟨x, _, rfl⟩ := List.mem_map.1 hl
    exact line_no10 x
  · simp only [List.mem_cons, List.not_mem_nil, or_false] at hl
    rcases hl with rfl | rfl
    · exact head_no10 (by decide) _
    · exact head_no10 (by decide) _
theorem ints_inj {h : List UInt8} {l m : List Int} (hh : (32 : UInt8) ∉ h) (wl : ∀ x ∈ l, wf64 x) (wm : ∀ x ∈ m, wf64 x) (e : h ++ intsB l = h ++ intsB m) : l = m := by
  rw [ints_fl, ints_fl] at e
  obtain ⟨_, e2⟩ := words_inj _ _ _ _ hh hh (fun w hw => by obtain ⟨v, _, rfl⟩ := List.mem_map.1 hw; exact no32 (itoa_big v)) (fun w hw => by obtain ⟨v, _, rfl⟩ := List.mem_map.1 hw; exact no32 (itoa_big v)) e
  exact map_inj_on _ _ _ (fun x hx y hy h => Dc.itoa_inj (i64_bd (wl x hx)) (i64_bd (wm y hy)) h) e2
theorem line_inj {x y : N2} (ox : ok2 x) (oy : ok2 y) (px : ∀ v ∈ x.fs, Pl v) (py : ∀ v ∈ y.fs, Pl v) (e : lineN x = lineN y) : x = y := by
  unfold lineN at e
  rw [fld_fl, fld_fl] at e
  obtain ⟨e1, e2⟩ := words_inj _ _ _ _ (no32 (itoa_big _)) (no32 (itoa_big _)) (fun w hw => by obtain ⟨v, _, rfl⟩ := List.mem_map.1 hw; exact no32 (text_big v)) (fun w hw => by obtain ⟨v, _, rfl⟩ := List.mem_map.1 hw; exact no32 (text_big v)) e
  have h1 := Dc.itoa_inj (i64_bd ox.1) (i64_bd oy.1) e1
  have h2 := map_inj_on _ _ _ (fun a ha b hb h => text_inj (px a ha) (py b hb) (ox.2.2 a ha) (oy.2.2 b hb) h) e2
  cases x; cases y
  simp_all
theorem textG_inj {a b : G3} (pa : Pg a) (pb : Pg b) (e : textG a = textG b) : a = b := by
  rw [text_lines, text_lines] at e
  have e1 := lines_inj _ _ (lines_no10 a) (lines_no10 b) e
  obtain ⟨e2, e3⟩ := List.append_inj' e1 rfl
  simp only [List.cons.injEq, and_true] at e3
  have h1 := map_inj_on _ _ _ (fun x hx y hy h => line_inj (pa.ok.1.2 x hx) (pb.ok.1.2 y hy) (pa.pl x hx) (pb.pl y hy) h) e2
  have h2 := ints_inj (by decide) pa.ok.2.1.2 pb.ok.2.1.2 e3.1
  have h3 := ints_inj (by decide) pa.ok.2.2.2 pb.ok.2.2.2 e3.2
  cases a; cases b
  simp_all
theorem trim_of {g : G3} (h : mayG g = true) : trimL g = trimW g (walkL g g.rs) := by unfold trimL; rw [h]; rfl
theorem trim_szL {g : G3} (hm : mayG g = true) (hz : Sz g) : Sz (trimL g) := by rw [trim_of hm]; exact Pt.trim_sz hz rfl
theorem wf_i {n : Int} (h0 : -1 ≤ n) (h1 : n ≤ 100000) : wf64 n := Go.WalkArith.wf_i64 ⟨by omega, by omega⟩
theorem pl_range (n : Nat) (W : List Int) (hW : W.length ≤ 5000) (i : Nat) : -1 ≤ (placeL n W).getD i 0 ∧ (placeL n W).getD i 0 ≤ 5000 := by
  rcases Nat.lt_or_ge i n with h | h
  · rw [placeL_at n W i h]
    have := Pt.place_range (W := W) (x := (i : Int))
    omega
  · rw [List.getD_eq_getElem?_getD, List.getElem?_eq_none (by rw [placeL_len]; exact h)]
    simp
theorem told_pl (pl : List Int) (v : V5) : Pl (toldP pl v) := by
  unfold toldP Pl
  split
  · exact .inr (.inl ⟨rfl, rfl, rfl, rfl⟩)
  · split
    · exact .inr (.inr (.inl ⟨rfl, rfl, rfl⟩))
    · split
      · exact .inr (.inr (.inr ⟨rfl, rfl, rfl, rfl⟩))
      · exact .inl rfl
theorem told_ok {pl : List Int} (hp : ∀ i, -1 ≤ pl.getD i 0 ∧ pl.getD i 0 ≤ 5000) {v : V5} (h : ok5 v) : ok5 (toldP pl v) := by
  obtain ⟨h0, h1, h2, h3, h4⟩ := h
  have z : wf64 0 := wf_i (by omega) (by omega)
  have k1 : wf64 1 := wf_i (by omega) (by omega)
  have k2 : wf64 2 := wf_i (by omega) (by omega)
  have k3 : wf64 3 := wf_i (by omega) (by omega)
  have kp : wf64 (pl.getD v.ref.toNat 0) := wf_i (hp _).1 (by have := (hp v.ref.toNat).2; omega)
  have zu : (Lit.int .u64 0).wf = true := by decide
  unfold toldP
  split
  · exact ⟨k1, h1, zu, zu, z⟩
  · split
    · exact ⟨k2, z, h2, h3, z⟩
    · split
      · exact ⟨k3, z, zu, zu, kp⟩
      · exact ⟨z, z, zu, zu, z⟩
theorem nd_ok {g : G3} (h : ok3 g) (x : Int) : ok2 (nd g x) := by
  unfold nd
  rcases Nat.lt_or_ge x.toNat g.ns.length with h1 | h1
  · exact h.1.2 _ (mem_getD h1)
  · rw [List.getD_eq_getElem?_getD, List.getElem?_eq_none h1]
    exact ⟨wf_i (by decide) (by decide), by decide, fun y hy => by cases hy⟩
theorem mv_ok {pl : List Int} (hp : ∀ i, -1 ≤ pl.getD i 0 ∧ pl.getD i 0 ≤ 5000) {l : List Int} (h : ∀ x ∈ l, wf64 x) : ∀ x ∈ movedL pl l, wf64 x := by
  intro x hx
  obtain ⟨y, hy, rfl⟩ := List.mem_map.1 hx
  unfold mv
  split
  · exact wf_i (hp _).1 (by have := (hp y.toNat).2; omega)
  · exact h y hy
theorem trim_pg {g : G3} (hm : mayG g = true) (h : ok3 g) : Pg (trimL g) := by
  rw [trim_of hm]
  have hW := gd_le (gd_walk g g.rs)
  have hn := Re.may_len hm
  have hp := pl_range g.ns.length (walkL g g.rs) (by omega)
  refine ⟨⟨⟨?_, fun y hy => ?_⟩, ⟨?_, mv_ok hp h.2.1.2⟩, ?_, mv_ok hp h.2.2.2⟩, fun x hx v hv => ?_⟩
  · show (List.map _ _).length ≤ _
    rw [List.length_map]
    unfold maxLen
    omega
  · obtain ⟨x, _, rfl⟩ := List.mem_map.1 (show y ∈ (walkL g g.rs).map _ from hy)
    have hx := nd_ok h x
    refine ⟨hx.1, ?_, fun v hv => ?_⟩
    · show (List.map _ _).length ≤ _
      rw [List.length_map]
      exact hx.2.1
    · obtain ⟨u, hu, rfl⟩ := List.mem_map.1 (show v ∈ (nd g x).fs.map _ from hv)
      exact told_ok hp (hx.2.2 u hu)
  · show (List.map _ _).length ≤ _
    rw [List.length_map]
    exact h.2.1.1
  · show (List.map _ _).length ≤ _
    rw [List.length_map]
    exact h.2.2.1
  · obtain ⟨y, _, rfl⟩ := List.mem_map.1 (show x ∈ (walkL g g.rs).map _ from hx)
    obtain ⟨u, _, rfl⟩ := List.mem_map.1 (show v ∈ (nd g y).fs.map _ from hv)
    exact told_pl _ u
theorem trim_mayL {g : G3} (hm : mayG g = true) : mayG (trimL g) = true := by rw [trim_of hm]; exact Pt.trim_may hm rfl
theorem texts_beq {a b : G3} (ha : mayG a = true) (hb : mayG b = true) (oa : ok3 a) (ob : ok3 b) : ((⟨(textR (trimL a)).toArray⟩ : ByteArray).toList == (⟨(textR (trimL b)).toArray⟩ : ByteArray).toList) = alikeB a b := by
  rw [ByteArray.toList_eq, ByteArray.toList_eq]
  show (textR (trimL a) == textR (trimL b)) = alikeB a b
  unfold textR alikeB
  rw [trim_mayL ha, trim_mayL hb, ha, hb]
  simp only [if_true, Bool.true_and]
  rw [Bool.eq_iff_iff, beq_iff_eq, decide_eq_true_eq]
  exact ⟨textG_inj (trim_pg ha oa) (trim_pg hb ob), fun e => by rw [e]⟩
theorem alike_comm (a b : G3) : alikeB b a = alikeB a b := by
  unfold alikeB
  rw [Bool.and_comm (mayG b) (mayG a)]
  congr 1
  exact decide_eq_decide.2 ⟨Eq.symm, Eq.symm⟩
end Go.Proofs.YtdgclpgjoanimaaDoor.Ti
