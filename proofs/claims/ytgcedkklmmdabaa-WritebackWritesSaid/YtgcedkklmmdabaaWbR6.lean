/- FOR EVERY INPUT THE LAW 'WritebackWrites' RETURNS TRUE, AND EACH ARGUMENT READS BEHIND THE CALL AS IT READ BEFORE. NO CONDITION. -/
import Derived.Test.YtgcedkklmmdabaaWbT
import Derived.Test.YtgcedkklmmdabaaWbR0
noncomputable section
set_option linter.unusedVariables false
set_option linter.unusedSimpArgs false
namespace Go.Proofs.Ytgcedkklmmdabaa
open Go.ChangeShapes Go.WideShapes Go.ChangeAt Go.RowKit Go.SX Go.Wb
set_option linter.unusedVariables false
set_option maxRecDepth 100000 in
theorem lifted6 (os : Os) (started : os.Started) (H : Type) (enc : TypeId × Value → H) :
    ReturnsInHanded {} Try.checked os 6 .any (Rows.writebackWritesSpec.pre6 enc Try.prog Try.f6 Rows.writebackWritesRow.domain false) (Rows.writebackWritesSpec.post enc Try.prog Try.f6 false true false false) := by
  refine returnsInHanded_of_change (C := Try.checked) own started (by kernel_rfl) Try.func6
    (ChangeSpec.witness6 (enc := enc) (C := Try.checked) false ⟨#[], #[.slice none 0 0, .agg #[.int .i64 0, .int .i64 0, .int .i64 0]], []⟩ 8 (by kernel_rfl) (by kernel_rfl) (by kernel_rfl) (by kernel_rfl)) ?_
  intro W base args ds gs before hval0 hW _ _
  have hval : ∀ (j : Nat) t v, Try.f6.params[j]? = some t → args[j]? = some v → Value.okWide Try.prog W .any base t v := hval0
  have hW' := hW
  obtain ⟨p, q, hA0, hV, rfl, _, _⟩ := hW
  have hA : DataW.TrodAll enc Try.prog W 0 (fun _ => true) true Try.f6.params.toList args.toList ds p := hA0
  rw [Try.params6] at hA hval
  obtain ⟨v0, vs0, d0, ds0, p0, q0, hargs, rfl, rfl, h0, r0⟩ := trodAll_cons hA
  obtain ⟨v1, vs1, d1, ds1, p1, q1, rfl, rfl, rfl, h1, r1⟩ := trodAll_cons r0
  obtain ⟨rfl, rfl, rfl⟩ := trodAll_nil r1
  obtain rfl : args = #[v0, v1] := by cases args; simp_all
  obtain ⟨rfl, rfl⟩ := trodVars_none hV
  have k0 := hval 0 22 v0 rfl rfl
  have k1 := hval 1 38 v1 rfl rfl
  clear hA0 hval0 hval
  simp only [List.append_nil] at hW'
  have hlt : ∀ x ∈ p0 ++ (p1), x.block < W.heap.size := fun x hx => by simpa using hW'.lt x hx
  have g0 : ∀ W', Below W.heap.size W W' → DataW.Trod enc Try.prog W' 0 (fun b => decide (b < W.heap.size)) true 22 v0 d0 p0 := fun _ hb => Below.trod laidOut (by kernel_rfl) (of_decide_eq_true (by kernel_rfl)) h0 hb (fun x hx => hlt x (List.mem_append.2 (.inl hx)))
  have g1 : ∀ W', Below W.heap.size W W' → DataW.Trod enc Try.prog W' 0 (fun b => decide (b < W.heap.size)) true 38 v1 d1 p1 := fun _ hb => Below.trod laidOut (by kernel_rfl) (of_decide_eq_true (by kernel_rfl)) h1 hb (fun x hx => hlt x (List.mem_append.2 (.inr hx)))
  obtain ⟨a0, len0, cap0, rfl⟩ := okWide_slice Try.underlying22 k0
  obtain ⟨xs0, rfl, hb0, hx0, e0⟩ := open_ro2 decP_ok Try.underlying22 kinds30 cells30 h0
  obtain ⟨l1, rfl, t1⟩ := open_struct Try.underlying38 kinds38 k1 h1
  obtain ⟨a1, s1, rfl, _, t1a⟩ := t1.int
  obtain ⟨b1, s1b, rfl, _, t1b⟩ := t1a.int
  obtain ⟨c1, s1c, rfl, _, t1c⟩ := t1b.int
  obtain rfl := t1c.nil
  refine (law_belowP sWrites (fun _ => ⟨rfl, ⟨rfl, rfl, rfl, trivial⟩⟩) ⟨xs0, ⟨a1, b1, c1⟩⟩ trivial W _ (like_all (.cons e0 (.cons (agg_all (.cons (.val _ _) (.cons (.val _ _) (.cons (.val _ _) .nil)))) .nil)))).mono fun e W' ⟨he, hb⟩ => ?_
  subst he
  exact ⟨_, rfl, _, _, _, [], _, [], hW', trodAll_mk1 (shut_bool Try.underlying4 _), (trodAll_cons_mk (g0 W' hb) (trodAll_cons_mk (g1 W' hb) trodAll_mk0)), rfl, hb.frame _, fun h => by cases h⟩
theorem writebackWrites : Rows.WritebackWritesSaid :=
  OpenClaim.holds_of_wide 6 Try.f6 rfl rfl rfl rfl rfl rfl rfl ⟨rfl, rfl, rfl, rfl, rfl⟩ rfl rfl rfl rfl rfl (by kernel_rfl) Try.func6 (by kernel_rfl)
    (of_decide_eq_true (by kernel_rfl)) (by unfold Func.isWrapper; first | (rw [if_pos (by decide +kernel)]; kernel_rfl) | (rw [if_neg (by decide +kernel)]; exact ⟨rfl, rfl⟩))
    (fun os started H enc _ => lifted6 os started H enc)
end Go.Proofs.Ytgcedkklmmdabaa
