/- WHAT THE ROWS OF ALL LAWS ON ZONE LISTS SHARE: A ZONE, A POLICY AND A PLACE READ FROM THE ARGUMENTS' CELLS. NO CONDITION. -/
import Derived.Test.YtnjgeljpkblodaaZnA
import Derived.Test.YtnjgeljpkblodaaSxRow
import Derived.Test.YtnjgeljpkblodaaRows
noncomputable section
set_option linter.unusedVariables false
set_option linter.unusedSimpArgs false
namespace Go.Proofs.Ytnjgeljpkblodaa
open Go.ChangeShapes Go.WideShapes Go.ChangeAt Go.RowKit Go.SX Go.Zn
set_option linter.unusedVariables false
theorem own : ownKnob Try.prog.godebug = none := by kernel_rfl
theorem laidOut : laidOutB Try.prog = true := by kernel_rfl
abbrev zks : List CK := [.i .i64, .i .i64, .i .i64, .i .i64, .i .i64, .sl, .sl, .sl, .sl, .sl]
theorem kinds41 : flatKinds Try.prog 5 41 = some zks := by kernel_rfl
theorem cells41 : Try.prog.cellsOf 41 = zks.length := by kernel_rfl
theorem kinds34 : flatKinds Try.prog 5 34 = some [.i .i64, .i .i64, .i .i64] := by kernel_rfl
theorem kinds36 : flatKinds Try.prog 5 36 = some [.i .i64, .b] := by kernel_rfl
def decZ (cs : List Value) : Z := ⟨intAt cs 0, intAt cs 1, intAt cs 2, intAt cs 3, intAt cs 4⟩
theorem decZ_ok : Dec zks dZ encZ decZ := by
  refine ⟨okZ, rfl, by decide, fun X cs T j sv v hsv hv => ?_⟩
  obtain ⟨n0, r0, rfl, _, T⟩ := Typed.int (ks := [.i .i64, .i .i64, .i .i64, .i .i64, .sl, .sl, .sl, .sl, .sl]) T
  obtain ⟨n1, r1, rfl, _, T⟩ := Typed.int (ks := [.i .i64, .i .i64, .i .i64, .sl, .sl, .sl, .sl, .sl]) T
  obtain ⟨n2, r2, rfl, _, T⟩ := Typed.int (ks := [.i .i64, .i .i64, .sl, .sl, .sl, .sl, .sl]) T
  obtain ⟨n3, r3, rfl, _, T⟩ := Typed.int (ks := [.i .i64, .sl, .sl, .sl, .sl, .sl]) T
  obtain ⟨n4, r4, rfl, _, T⟩ := Typed.int (ks := [.sl, .sl, .sl, .sl, .sl]) T
  by_cases h : j < 5
  · have : j = 0 ∨ j = 1 ∨ j = 2 ∨ j = 3 ∨ j = 4 := by omega
    rcases this with rfl | rfl | rfl | rfl | rfl <;> (cases hsv; cases hv; exact .val _ _)
  · obtain ⟨m, rfl⟩ : ∃ m, j = 5 + m := ⟨j - 5, by omega⟩
    have hm : m < 5 := by
      have h1 := (List.getElem?_eq_some_iff.1 hsv).1
      have : (encZ (decZ (Value.int .i64 n0 :: Value.int .i64 n1 :: Value.int .i64 n2 :: Value.int .i64 n3 :: Value.int .i64 n4 :: r4))).length = 10 := rfl
      omega
    have hv' : r4[m]? = some v := by rw [← hv, Nat.add_comm]; rfl
    have : m = 0 ∨ m = 1 ∨ m = 2 ∨ m = 3 ∨ m = 4 := by omega
    rcases this with rfl | rfl | rfl | rfl | rfl <;> (obtain ⟨_, _, _, rfl⟩ := T.2 _ .sl v rfl hv'; cases hsv; exact .one _ _ rfl)
end Go.Proofs.Ytnjgeljpkblodaa
