/- FOR EVERY INPUT THE LAW 'ZonelistKeeps' RETURNS TRUE, AND EACH ARGUMENT READS BEHIND THE CALL AS IT READ BEFORE. NO CONDITION. -/
import Derived.Test.YtnjgeljpkblodaaZnN
import Derived.Test.YtnjgeljpkblodaaZnR0
noncomputable section
set_option linter.unusedVariables false
set_option linter.unusedSimpArgs false
namespace Go.Proofs.Ytnjgeljpkblodaa
open Go.ChangeShapes Go.WideShapes Go.ChangeAt Go.RowKit Go.SX Go.Zn
set_option linter.unusedVariables false
set_option maxRecDepth 100000 in
theorem lifted10 (os : Os) (started : os.Started) (H : Type) (enc : TypeId × Value → H) :
    ReturnsInHanded {} Try.checked os 10 .any (Rows.zonelistKeepsSpec.pre6 enc Try.prog Try.f10 Rows.zonelistKeepsRow.domain false) (Rows.zonelistKeepsSpec.post enc Try.prog Try.f10 false true false false) := by
  refine returnsInHanded_of_change (C := Try.checked) own started (by kernel_rfl) Try.func10
    (ChangeSpec.witness6 (enc := enc) (C := Try.checked) false ⟨#[], #[.slice none 0 0, .agg #[.int .i64 0, .int .i64 0, .int .i64 0], .agg #[.int .i64 0, .bool false]], []⟩ 8 (by kernel_rfl) (by kernel_rfl) (by kernel_rfl) (by kernel_rfl)) ?_
  intro W base args ds gs before hval0 hW _ _
  have hval : ∀ (j : Nat) t v, Try.f10.params[j]? = some t → args[j]? = some v → Value.okWide Try.prog W .any base t v := hval0
  have hW' := hW
  obtain ⟨p, q, hA0, hV, rfl, _, _⟩ := hW
  have hA : DataW.TrodAll enc Try.prog W 0 (fun _ => true) true Try.f10.params.toList args.toList ds p := hA0
  rw [Try.params10] at hA hval
  obtain ⟨v0, vs0, d0, ds0, p0, q0, hargs, rfl, rfl, h0, r0⟩ := trodAll_cons hA
  obtain ⟨v1, vs1, d1, ds1, p1, q1, rfl, rfl, rfl, h1, r1⟩ := trodAll_cons r0
  obtain ⟨v2, vs2, d2, ds2, p2, q2, rfl, rfl, rfl, h2, r2⟩ := trodAll_cons r1
  obtain ⟨rfl, rfl, rfl⟩ := trodAll_nil r2
  obtain rfl : args = #[v0, v1, v2] := by cases args; simp_all
  obtain ⟨rfl, rfl⟩ := trodVars_none hV
  have k0 := hval 0 22 v0 rfl rfl
  have k1 := hval 1 34 v1 rfl rfl
  have k2 := hval 2 36 v2 rfl rfl
  clear hA0 hval0 hval
  simp only [List.append_nil] at hW'
  have hlt : ∀ x ∈ p0 ++ (p1 ++ (p2)), x.block < W.heap.size := fun x hx => by simpa using hW'.lt x hx
  have g0 : ∀ W', Below W.heap.size W W' → DataW.Trod enc Try.prog W' 0 (fun b => decide (b < W.heap.size)) true 22 v0 d0 p0 := fun _ hb => Below.trod laidOut (by kernel_rfl) (of_decide_eq_true (by kernel_rfl)) h0 hb (fun x hx => hlt x (List.mem_append.2 (.inl hx)))
  have g1 : ∀ W', Below W.heap.size W W' → DataW.Trod enc Try.prog W' 0 (fun b => decide (b < W.heap.size)) true 34 v1 d1 p1 := fun _ hb => Below.trod laidOut (by kernel_rfl) (of_decide_eq_true (by kernel_rfl)) h1 hb (fun x hx => hlt x (List.mem_append.2 (.inr (List.mem_append.2 (.inl hx)))))
  have g2 : ∀ W', Below W.heap.size W W' → DataW.Trod enc Try.prog W' 0 (fun b => decide (b < W.heap.size)) true 36 v2 d2 p2 := fun _ hb => Below.trod laidOut (by kernel_rfl) (of_decide_eq_true (by kernel_rfl)) h2 hb (fun x hx => hlt x (List.mem_append.2 (.inr (List.mem_append.2 (.inr hx)))))
  obtain ⟨a0, len0, cap0, rfl⟩ := okWide_slice Try.underlying22 k0
  obtain ⟨xs0, rfl, e0⟩ := open_ro decZ_ok Try.underlying22 kinds41 cells41 h0
  obtain ⟨l1, rfl, t1⟩ := open_struct Try.underlying34 kinds34 k1 h1
  obtain ⟨a1, s1, rfl, _, t1a⟩ := t1.int
  obtain ⟨b1, s1b, rfl, _, t1b⟩ := t1a.int
  obtain ⟨c1, s1c, rfl, _, t1c⟩ := t1b.int
  obtain rfl := t1c.nil
  obtain ⟨l2, rfl, t2⟩ := open_struct Try.underlying36 kinds36 k2 h2
  obtain ⟨a2, s2, rfl, _, t2a⟩ := t2.int
  obtain ⟨b2, s2b, rfl, t2b⟩ := t2a.bool
  obtain rfl := t2b.nil
  refine (law_below sKeeps (fun _ => ⟨rfl, ⟨rfl, rfl, rfl, trivial⟩, ⟨rfl, rfl, trivial⟩⟩) ⟨xs0, ⟨a1, b1, c1⟩, a2, b2⟩ W _ (like_all (.cons e0 (.cons (agg_all (.cons (.val _ _) (.cons (.val _ _) (.cons (.val _ _) .nil)))) (.cons (agg_all (.cons (.val _ _) (.cons (.val _ _) .nil))) .nil))))).mono fun e W' ⟨he, hb⟩ => ?_
  subst he
  exact ⟨_, rfl, _, _, _, [], _, [], hW', trodAll_mk1 (shut_bool Try.underlying4 _), (trodAll_cons_mk (g0 W' hb) (trodAll_cons_mk (g1 W' hb) (trodAll_cons_mk (g2 W' hb) trodAll_mk0))), rfl, hb.frame _, fun h => by cases h⟩
theorem zonelistKeeps : Rows.ZonelistKeepsSaid :=
  OpenClaim.holds_of_wide 10 Try.f10 rfl rfl rfl rfl rfl rfl rfl ⟨rfl, rfl, rfl, rfl, rfl⟩ rfl rfl rfl rfl rfl (by kernel_rfl) Try.func10 (by kernel_rfl)
    (of_decide_eq_true (by kernel_rfl)) (by unfold Func.isWrapper; first | (rw [if_pos (by decide +kernel)]; kernel_rfl) | (rw [if_neg (by decide +kernel)]; exact ⟨rfl, rfl⟩))
    (fun os started H enc _ => lifted10 os started H enc)
end Go.Proofs.Ytnjgeljpkblodaa
