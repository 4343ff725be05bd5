/- append(w, 1, 2), w a row of the call's own: what w reads as behind it. -/
import Derived.Test.YtlmlckidgfnhdaaTl
import Derived.Deep.AppendLies
namespace Go.Proofs.Ytlmlckidgfnhdaa.Ap
open Go.RowKit Go.ChangeShapes Go.WideShapes Go.Proofs.YtlmlckidgfnhdaaW.PrintWords Go.Proofs.Ytlmlckidgfnhdaa.Ba Go.Proofs.Ytlmlckidgfnhdaa.Pp Go.Proofs.Ytlmlckidgfnhdaa.Su Go.Proofs.Ytlmlckidgfnhdaa.Tl
set_option linter.unusedVariables false
set_option linter.unusedSimpArgs false
set_option linter.unnecessarySimpa false
theorem addr0 (g t : Nat) : (Addr.mk g 0 none).add t = ⟨g, t, none⟩ := by unfold Addr.add; split <;> simp_all
theorem wr_own {w : World} {base g n cap : Nat} {l : List Nat} (h : w.ownsRow base 30 1 (.slice (some ⟨g, 0, none⟩) n cap) n (l.map eU)) : WR w (some ⟨g, 0, none⟩) l := by
  intro t ht
  refine ⟨_, rfl, ?_⟩
  exact World.ownsRow.cells h rfl t (eU (l.getD t 0)) (by rw [List.getElem?_map, List.getElem?_eq_getElem ht, List.getD_eq_getElem?_getD, List.getElem?_eq_getElem ht]; rfl)
theorem run_append_two {W : World} {base g cap : Nat} {S : List Nat} (hO : RU W base (.slice (some ⟨g, 0, none⟩) S.length cap) S) (hl : S.length ≤ 1000) (hb : base ≤ W.heap.size) (x : Nat) (hx : W.heap[x]? = some (.cells #[.int .u64 1, .int .u64 2] 30 (0, 0))) :
    ∃ A c w', (Builtin.append_ #[37, 37] 37 #[.slice (some ⟨g, 0, none⟩) S.length cap, .slice (some ⟨x, 0, none⟩) 2 2]).run Try.prog W = .ok (.slice A (S.length + 2) c) w' ∧ RU w' base (.slice A (S.length + 2) c) (S ++ [1, 2]) ∧ Below base W w' ∧ WR w' (some ⟨g, 0, none⟩) S := by
  obtain ⟨i, hi, hzz⟩ := Option.map_eq_some_iff.1 infoU
  simp only [Prod.mk.injEq] at hzz
  obtain ⟨hz0, hz1, hz2⟩ := hzz
  have hnews : ∀ j u, ([.int .u64 1, .int .u64 2] : List Value)[j]? = some u → W.cell? ((⟨x, 0, none⟩ : Addr).add j) = some u := fun j u hu => by
    rw [addr0, blk_cell hx]
    match j, hu with
    | 0, hu => exact hu
    | 1, hu => exact hu
    | j + 2, hu => simp at hu
  have h1 : ∀ u ∈ ([.int .u64 1, .int .u64 2] : List Value), u.oneCell' = true := by
    intro u hu
    simp only [List.mem_cons, List.not_mem_nil, or_false] at hu
    rcases hu with rfl | rfl <;> rfl
  have hg0 := own_base hO g rfl
  have hlt := own_lt hO g rfl
  obtain ⟨v', w', hr, hown, hgrow, _, hat⟩ := run_append_own_at (P := Try.prog) W base 37 37 30 i (.int .u64 0) 1 8 Try.underlying37 hi hz0 hz1 hz2 rfl (by decide) _ S.length (S.map eU) hO ⟨x, 0, none⟩ 2 2 [.int .u64 1, .int .u64 2] rfl hnews h1 (by simp only [maxLen]; omega) (by omega) hb
  have hown2 : w'.ownsRow base 30 1 v' (S.length + 2) ((S ++ [1, 2]).map eU) := by rw [List.map_append]; exact hown
  obtain ⟨g', cap', rfl, _, _⟩ := World.ownsRow.form hown2 (by omega)
  refine ⟨_, cap', w', hr, ?_, ⟨hgrow.os, hgrow.tape, hgrow.output, hgrow.size, fun k hk => hgrow.block k (by omega) (fun e => by have e : k = g := by simpa [Value.ownBlock] using e
                                                                                                                                  omega)⟩, ?_⟩
  · show w'.ownsRow base 30 1 _ (S ++ [1, 2]).length _
    rw [List.length_append]
    exact hown2
  · have hS := wr_own hO
    rcases hat with e | e
    · have e : g' = g := by injection e
      subst e
      intro t ht
      obtain ⟨ad, ea, hc⟩ := wr_own hown2 t (by rw [List.length_append]; omega)
      rw [getD_l _ _ _ _ ht] at hc
      exact ⟨ad, ea, hc⟩
    · have e : g' = W.heap.size := by injection e
      by_cases hroom : S.length + 2 ≤ cap
      · exfalso
        rcases hO.2 with ⟨hv, _⟩ | ⟨g2, cap2, cur, hv, hbg, hg, hnc, hcm, hcs, htake⟩
        · cases hv
        · have hv2 : g2 = g ∧ cap2 = cap := by simpa using hv.symm
          obtain ⟨rfl, rfl⟩ := hv2
          have hr2 := run_append_room (P := Try.prog) W 37 37 30 i Try.underlying37 hi g2 S.length cap2 cur hg ⟨x, 0, none⟩ 2 2 [.int .u64 1, .int .u64 2] (by rw [hz1]; rfl) hnews h1 hroom (by rw [hz1, hcs]; simp; omega)
          rw [hr] at hr2
          injection hr2 with hr2 _
          have : g' = g2 := by simpa using hr2
          omega
      · have holds : ∀ j u, (S.map eU)[j]? = some u → W.cell? ((⟨g, 0, none⟩ : Addr).add j) = some u := World.ownsRow.cells hO rfl
        have hr2 := run_append_grow (P := Try.prog) W 37 37 30 i (.int .u64 0) Try.underlying37 hi hz0 ⟨g, 0, none⟩ S.length cap (S.map eU) (by rw [hz1, List.length_map]; omega) holds ⟨x, 0, none⟩ 2 2 [.int .u64 1, .int .u64 2] (by rw [hz1]; rfl) hnews (by omega) (by omega) (growslice_fits (by omega) (by rw [hz2]; omega))
        rw [hr] at hr2
        injection hr2 with _ hr2
        intro t ht
        obtain ⟨ad, ea, hc⟩ := hS t ht
        refine ⟨ad, ea, ?_⟩
        rw [hr2]
        exact cell_old hc (fun k hk => Below.heap_alloc W.drew _ k hk)
theorem wpList_append_two {P : Program} {ops : Array Oper} {rest : List Oper} {o : Oper} {a : Act} {Q : Exit → Act → World → Prop} {W : World} (hgd : o.guard = none) (s x : Operand)
    (ho : o.op = .call { callee := .builtin .append, args := #[s, x], argTypes := #[37, 37] }) (hty : o.type = 37) (vs vx v : Value) (w' : World) (hs : a.eval s = vs) (hx : a.eval x = vx)
    (hr : (Builtin.append_ #[37, 37] 37 #[vs, vx]).run P W = .ok v w') (h : wpList P ops Q rest (a.put o.dst v) w') : wpList P ops Q (o :: rest) a W := by
  refine wpList_plain hgd fun K hK => ?_
  unfold Oper.wp execOp
  simp only [ho, hty, resolve, invoke, builtin, Sem.run_bind, Sem.run_pure, Result.andThen_ok, List.map_toArray, List.map_cons, List.map_nil, hs, hx, hr]
  exact hK _ _ h
end Go.Proofs.Ytlmlckidgfnhdaa.Ap
