/- A PART OF THE PROOF. NO CONDITION. -/
import Derived.Test.YtgcedkklmmdabaaWbG
import Derived.DeepKeys4
noncomputable section
set_option linter.unusedVariables false
set_option linter.unusedSimpArgs false
namespace Go.Wb
open Go.Proofs Go.SX
set_option maxRecDepth 100000

theorem und55 : P.underlying 55 = some (.struct #[⟨"file", 3, 0, false, "", "estovers/writeback", 0⟩, ⟨"index", 3, 1, false, "", "estovers/writeback", 8⟩]) := by kernel_rfl
theorem und3 : P.underlying 3 = some (.int .i64) := by kernel_rfl
theorem cells55 : P.cellsOf 55 = 2 := by kernel_rfl
theorem cells3 : P.cellsOf 3 = 1 := by kernel_rfl
theorem laidOut : laidOutB P = true := by kernel_rfl
theorem row55 : (55 : TypeId) < P.types.size := of_decide_eq_true (by kernel_rfl)
theorem wide55 : (match P.underlying 55 with | some (.array _ _) | some (.struct _) => true | _ => false) = true := by rw [und55]
theorem law55 : WideMaps.KeyLaw P 55 := deep_law_laid laidOut (m := 2) (by omega) row55 (by kernel_rfl) wide55
theorem keyType55 : P.keyType 55 = true := by kernel_rfl
theorem typesSize : ∃ n, P.types.size = n + 1 := ⟨P.types.size - 1, by kernel_rfl⟩
theorem wf_of {x : Int} (h : inK .i64 x) : (Lit.int .i64 x).wf = true := by
  unfold inK lo hi at h
  simp only [Lit.wf, Bool.and_eq_true, decide_eq_true_eq]
  exact ⟨h.1, h.2⟩
theorem key55 : KeyOk P 55 true 2 where
  keyed := Maps.Keyed.of_law law55
  one := fun h => by cases h
  lit := fun xs hl hin => by
    match xs, hl, hin with
    | [a, b], _, hin =>
      obtain ⟨ha, hb⟩ := hin
      obtain ⟨n, hn⟩ := typesSize
      refine ⟨.string (keyBytes [.int .i64 a, .int .i64 b]), ?_⟩
      have w1 := wf_of ha
      have w2 := wf_of hb
      simp [keyOf, und55, keyType55, keyV, Value.formed, cells55, Value.cells, Program.keyLits, hn, cells3, und3, w1, w2]
end Go.Wb
