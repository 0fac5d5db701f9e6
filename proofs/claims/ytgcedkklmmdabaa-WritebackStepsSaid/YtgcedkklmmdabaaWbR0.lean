/- WHAT THE ROWS OF ALL LAWS ON WRITING BACK SHARE: A PAGE AND A RUN READ FROM THE ARGUMENTS' CELLS. NO CONDITION. -/
import Derived.Test.YtgcedkklmmdabaaWbA
import Derived.Test.YtgcedkklmmdabaaSxRow
import Derived.Test.YtgcedkklmmdabaaRows
noncomputable section
set_option linter.unusedVariables false
set_option linter.unusedSimpArgs false
namespace Go.Proofs.Ytgcedkklmmdabaa
open Go.ChangeShapes Go.WideShapes Go.ChangeAt Go.RowKit Go.SX Go.Wb
set_option linter.unusedVariables false
theorem own : ownKnob Try.prog.godebug = none := by kernel_rfl
theorem laidOut : laidOutB Try.prog = true := by kernel_rfl
abbrev pks : List CK := [.i .i64, .i .i64, .i .i64]
theorem kinds30 : flatKinds Try.prog 5 30 = some pks := by kernel_rfl
theorem cells30 : Try.prog.cellsOf 30 = pks.length := by kernel_rfl
theorem kinds38 : flatKinds Try.prog 5 38 = some [.i .i64, .i .i64, .i .i64] := by kernel_rfl
def decP (cs : List Value) : DP := ⟨intAt cs 0, intAt cs 1, intAt cs 2⟩
theorem decP_ok : Dec pks dDP encDP decP := by
  refine ⟨okDP, rfl, by decide, fun X cs T j sv v hsv hv => ?_⟩
  obtain ⟨n0, r0, rfl, _, T⟩ := Typed.int (ks := [.i .i64, .i .i64]) T
  obtain ⟨n1, r1, rfl, _, T⟩ := Typed.int (ks := [.i .i64]) T
  obtain ⟨n2, r2, rfl, _, T⟩ := Typed.int (ks := []) T
  obtain rfl := T.nil
  have : j = 0 ∨ j = 1 ∨ j = 2 := by
    have h1 := (List.getElem?_eq_some_iff.1 hsv).1
    have : (encDP (decP [Value.int .i64 n0, Value.int .i64 n1, Value.int .i64 n2])).length = 3 := rfl
    omega
  rcases this with rfl | rfl | rfl <;> (cases hsv; cases hv; exact .val _ _)
theorem wf_i64 {n : Int} (h : (Lit.int .i64 n).wf = true) : -9223372036854775808 ≤ n ∧ n ≤ 9223372036854775807 := by
  simp only [Lit.wf, Bool.and_eq_true, decide_eq_true_eq] at h
  have e1 : IntKind.i64.min = -9223372036854775808 := by rfl
  have e2 : IntKind.i64.max = 9223372036854775807 := by rfl
  omega
theorem page_since {xs : List DP} (h : ∀ x ∈ xs, ∃ cs, Typed pks cs ∧ x = decP cs) : ∀ p ∈ xs, p.since ≤ 9223372036854775807 := fun p hp => by
  obtain ⟨cs, T, rfl⟩ := h p hp
  obtain ⟨n0, r0, rfl, _, T⟩ := Typed.int (ks := [.i .i64, .i .i64]) T
  obtain ⟨n1, r1, rfl, _, T⟩ := Typed.int (ks := [.i .i64]) T
  obtain ⟨n2, r2, rfl, w, T⟩ := Typed.int (ks := []) T
  exact (wf_i64 w).2
theorem len_max {xs : List DP} (h : xs.length ≤ maxLen) : xs.length ≤ 9223372036854775807 := h
end Go.Proofs.Ytgcedkklmmdabaa
