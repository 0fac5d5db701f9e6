/- A PART OF THE PROOF. NO CONDITION. -/
import Derived.Test.YtgcedkklmmdabaaWbS
import Derived.Test.YtgcedkklmmdabaaSxAD
noncomputable section
set_option linter.unusedVariables false
set_option linter.unusedVariables false
set_option linter.unusedSimpArgs false
namespace Go.Wb
open Go.Proofs Go.SX
set_option maxRecDepth 100000
/-! the first four laws -/
def cNexts : Con := pureCon (List DP) Unit (fun l => [roP l]) (fun _ => True) (fun _ _ => True) (fun _ _ => Bo true)
theorem vNexts_eq : (cNexts.body (fun g => env [(10, cFew), (11, cAwake), (12, cOrder), (13, cOrder), (14, cWCheck), (15, cCheck), (16, cNext), (17, cNext), (18, cEq)] (noLoops g)) Try.f3) = (∀ (g : List DP), True → ∃ (g_1 : List DP), SV.ro DP dDP encDP g = SV.ro DP dDP encDP g_1 ∧ True ∧ True ∧ ∀ (b : Unit), True → ((!decide ((↑(List.length g_1) : Int) ≤ (100 : Int)))
  = true → ∃ (g : Unit), True ∧ True ∧ True ∧ ∀ (b : Unit), True → ∃ (b : Unit), True ∧ SV.val (Value.bool true) = SV.val (Value.bool true) ∧ (0 : Nat) = (0 : Nat) ∧ True) ∧
  ((!decide ((↑(List.length g_1) : Int) ≤ (100 : Int))) = false → ∃ (g_2 : List DP), SV.ro DP dDP encDP g = SV.ro DP dDP encDP g_2 ∧ True ∧ List.length g_2 ≤ (1000000000 : Nat) ∧ ∀
  (b : Unit), True → ∃ (g_3 : List DP), SV.ro DP dDP encDP g = SV.ro DP dDP encDP g_3 ∧ True ∧ List.length g_3 ≤ (1000000000 : Nat) ∧ ∀ (b : Unit), True → ∃ (g_4 : List DP), SV.ro DP
  dDP encDP g = SV.ro DP dDP encDP g_4 ∧ True ∧ List.length g_4 ≤ (1000000000 : Nat) ∧ ∀ (b : Unit), True → ∃ (g_5 : List DP), SV.ro DP dDP encDP g = SV.ro DP dDP encDP g_5 ∧ True ∧
  List.length g_5 ≤ (1000000000 : Nat) ∧ ∀ (b : Unit), True → ((chk g_4 == chk g_5) = true → ∃ (g_6 : List DP), SV.ro DP dDP encDP g = SV.ro DP dDP encDP g_6 ∧ True ∧ List.length g_6
  ≤ (1000000000 : Nat) ∧ ∀ (b : Unit), True → ∃ (g_7 : List DP), SV.ro DP dDP encDP g = SV.ro DP dDP encDP g_7 ∧ True ∧ List.length g_7 ≤ (1000000000 : Nat) ∧ ∀ (b : Unit), True →
  ((nxt g_6 == nxt g_7) = true → ∃ (g : List DP × List DP), (((0 : Nat) + List.length (ordO g_2) ≤ List.length (ordO g_2) ∧ SV.ro DP dDP encDP (List.take (List.length (ordO g_2))
  (List.drop (0 : Nat) (ordO g_2))) = SV.ro DP dDP encDP (Prod.fst g)) ∧ (0 : Nat) + List.length (ordO g_3) ≤ List.length (ordO g_3) ∧ SV.ro DP dDP encDP (List.take (List.length
  (ordO g_3)) (List.drop (0 : Nat) (ordO g_3))) = SV.ro DP dDP encDP (Prod.snd g)) ∧ True ∧ (List.length (Prod.fst g) ≤ (1000000000 : Nat) ∧ List.length (Prod.snd g) ≤ (1000000000 :
  Nat)) ∧ ∀ (b : Unit), True → (eqL (Prod.fst g) (Prod.snd g) = true → ((chk g_2 == chk g_3) = true → ∃ (g : Unit), True ∧ True ∧ True ∧ ∀ (b : Unit), True → ∃ (b : Unit), True ∧
  SV.val (Value.bool true) = SV.val (Value.bool true) ∧ (0 : Nat) = (0 : Nat) ∧ True) ∧ ((chk g_2 == chk g_3) = false → ∃ (b : Unit), True ∧ true = false ∧ (0 : Nat) = (0 : Nat) ∧
  True)) ∧ (eqL (Prod.fst g) (Prod.snd g) = false → ∃ (b : Unit), True ∧ true = false ∧ (0 : Nat) = (0 : Nat) ∧ True)) ∧ ((nxt g_6 == nxt g_7) = false → ∃ (b : Unit), True ∧ true =
  false ∧ (0 : Nat) = (0 : Nat) ∧ True)) ∧ ((chk g_4 == chk g_5) = false → ∃ (b : Unit), True ∧ true = false ∧ (0 : Nat) = (0 : Nat) ∧ True))) := by kernel_rfl
def cExpires : Con := pureCon GExp Unit (fun g => [roP g.l, I g.now, I g.age]) (fun g => g.now ≤ 9223372036854775807 ∧ ∀ p ∈ g.l, p.since ≤ 9223372036854775807) (fun _ _ => True) (fun _ _ => Bo true)
theorem vExpires_eq : (cExpires.body (fun g => env [(10, cFew), (11, cAwake), (19, cExp), (20, cExp), (18, cEq)] (noLoops g)) Try.f4) = (∀ (g : GExp), (GExp.now g ≤ (9223372036854775807 : Int) ∧ ∀ (p : DP), p ∈ GExp.l g → DP.since p ≤ (9223372036854775807 : Int)) → ∃ (g_1 : List DP), SV.ro DP dDP encDP (GExp.l g) =
  SV.ro DP dDP encDP g_1 ∧ True ∧ True ∧ ∀ (b : Unit), True → ((!decide ((↑(List.length g_1) : Int) ≤ (100 : Int))) = true → ∃ (g : Unit), True ∧ True ∧ True ∧ ∀ (b : Unit), True → ∃
  (b : Unit), True ∧ SV.val (Value.bool true) = SV.val (Value.bool true) ∧ (0 : Nat) = (0 : Nat) ∧ True) ∧ ((!decide ((↑(List.length g_1) : Int) ≤ (100 : Int))) = false → ∃ (g_2 :
  GExp), (SV.ro DP dDP encDP (GExp.l g) = SV.ro DP dDP encDP (GExp.l g_2) ∧ SV.val (Value.int IntKind.i64 (GExp.now g)) = SV.val (Value.int IntKind.i64 (GExp.now g_2)) ∧ SV.val
  (Value.int IntKind.i64 (GExp.age g)) = SV.val (Value.int IntKind.i64 (GExp.age g_2))) ∧ True ∧ (List.length (GExp.l g_2) ≤ (1000000000 : Nat) ∧ GExp.now g_2 ≤ (9223372036854775807
  : Int) ∧ ∀ (p : DP), p ∈ GExp.l g_2 → DP.since p ≤ (9223372036854775807 : Int)) ∧ ∀ (b : Unit), True → ∃ (g_3 : GExp), (SV.ro DP dDP encDP (GExp.l g) = SV.ro DP dDP encDP (GExp.l
  g_3) ∧ SV.val (Value.int IntKind.i64 (GExp.now g)) = SV.val (Value.int IntKind.i64 (GExp.now g_3)) ∧ SV.val (Value.int IntKind.i64 (GExp.age g)) = SV.val (Value.int IntKind.i64
  (GExp.age g_3))) ∧ True ∧ (List.length (GExp.l g_3) ≤ (1000000000 : Nat) ∧ GExp.now g_3 ≤ (9223372036854775807 : Int) ∧ ∀ (p : DP), p ∈ GExp.l g_3 → DP.since p ≤
  (9223372036854775807 : Int)) ∧ ∀ (b : Unit), True → ∃ (g : List DP × List DP), (((0 : Nat) + List.length (expO g_2) ≤ List.length (expO g_2) ∧ SV.ro DP dDP encDP (List.take
  (List.length (expO g_2)) (List.drop (0 : Nat) (expO g_2))) = SV.ro DP dDP encDP (Prod.fst g)) ∧ (0 : Nat) + List.length (expO g_3) ≤ List.length (expO g_3) ∧ SV.ro DP dDP encDP
  (List.take (List.length (expO g_3)) (List.drop (0 : Nat) (expO g_3))) = SV.ro DP dDP encDP (Prod.snd g)) ∧ True ∧ (List.length (Prod.fst g) ≤ (1000000000 : Nat) ∧ List.length
  (Prod.snd g) ≤ (1000000000 : Nat)) ∧ ∀ (b : Unit), True → (eqL (Prod.fst g) (Prod.snd g) = true → ((expE g_2 == expE g_3) = true → ∃ (g : Unit), True ∧ True ∧ True ∧ ∀ (b : Unit),
  True → ∃ (b : Unit), True ∧ SV.val (Value.bool true) = SV.val (Value.bool true) ∧ (0 : Nat) = (0 : Nat) ∧ True) ∧ ((expE g_2 == expE g_3) = false → ∃ (b : Unit), True ∧ true =
  false ∧ (0 : Nat) = (0 : Nat) ∧ True)) ∧ (eqL (Prod.fst g) (Prod.snd g) = false → ∃ (b : Unit), True ∧ true = false ∧ (0 : Nat) = (0 : Nat) ∧ True))) := by kernel_rfl
def cRunsL : Con := pureCon GRn Unit (fun g => [roP g.l, I g.most]) (fun g => g.most ≤ 9223372036854775807) (fun _ _ => True) (fun _ _ => Bo true)
theorem vRunsL_eq : (cRunsL.body (fun g => env [(10, cFew), (11, cAwake), (21, cRuns), (22, cRuns), (23, cEqR)] (noLoops g)) Try.f5) = (∀ (g : GRn), GRn.most g ≤ (9223372036854775807 : Int) → ∃ (g_1 : List DP), SV.ro DP dDP encDP (GRn.l g) = SV.ro DP dDP encDP g_1 ∧ True ∧ True ∧ ∀ (b : Unit), True → ((!decide
  ((↑(List.length g_1) : Int) ≤ (100 : Int))) = true → ∃ (g : Unit), True ∧ True ∧ True ∧ ∀ (b : Unit), True → ∃ (b : Unit), True ∧ SV.val (Value.bool true) = SV.val (Value.bool
  true) ∧ (0 : Nat) = (0 : Nat) ∧ True) ∧ ((!decide ((↑(List.length g_1) : Int) ≤ (100 : Int))) = false → ∃ (g_2 : GRn), (SV.ro DP dDP encDP (GRn.l g) = SV.ro DP dDP encDP (GRn.l
  g_2) ∧ SV.val (Value.int IntKind.i64 (GRn.most g)) = SV.val (Value.int IntKind.i64 (GRn.most g_2))) ∧ True ∧ (List.length (GRn.l g_2) ≤ (1000000000 : Nat) ∧ GRn.most g_2 ≤
  (9223372036854775807 : Int)) ∧ ∀ (b : Unit), True → ∃ (g_3 : GRn), (SV.ro DP dDP encDP (GRn.l g) = SV.ro DP dDP encDP (GRn.l g_3) ∧ SV.val (Value.int IntKind.i64 (GRn.most g)) =
  SV.val (Value.int IntKind.i64 (GRn.most g_3))) ∧ True ∧ (List.length (GRn.l g_3) ≤ (1000000000 : Nat) ∧ GRn.most g_3 ≤ (9223372036854775807 : Int)) ∧ ∀ (b : Unit), True → ∃ (g :
  List DR × List DR), (((0 : Nat) + List.length (runsO g_2) ≤ List.length (runsO g_2) ∧ SV.ro DR dDR encDR (List.take (List.length (runsO g_2)) (List.drop (0 : Nat) (runsO g_2))) =
  SV.ro DR dDR encDR (Prod.fst g)) ∧ (0 : Nat) + List.length (runsO g_3) ≤ List.length (runsO g_3) ∧ SV.ro DR dDR encDR (List.take (List.length (runsO g_3)) (List.drop (0 : Nat)
  (runsO g_3))) = SV.ro DR dDR encDR (Prod.snd g)) ∧ True ∧ (List.length (Prod.fst g) ≤ (1000000000 : Nat) ∧ List.length (Prod.snd g) ≤ (1000000000 : Nat)) ∧ ∀ (b : Unit), True →
  (eqR (Prod.fst g) (Prod.snd g) = true → ((runsE g_2 == runsE g_3) = true → ∃ (g : Unit), True ∧ True ∧ True ∧ ∀ (b : Unit), True → ∃ (b : Unit), True ∧ SV.val (Value.bool true) =
  SV.val (Value.bool true) ∧ (0 : Nat) = (0 : Nat) ∧ True) ∧ ((runsE g_2 == runsE g_3) = false → ∃ (b : Unit), True ∧ true = false ∧ (0 : Nat) = (0 : Nat) ∧ True)) ∧ (eqR (Prod.fst
  g) (Prod.snd g) = false → ∃ (b : Unit), True ∧ true = false ∧ (0 : Nat) = (0 : Nat) ∧ True))) := by kernel_rfl
def cWrites : Con := pureCon GWr Unit (fun g => [roP g.l, .agg (encDR g.r)]) (fun _ => True) (fun _ _ => True) (fun _ _ => Bo true)
theorem vWrites_eq : (cWrites.body (fun g => env [(10, cFew), (11, cAwake), (24, cWr), (25, cWr), (18, cEq)] (noLoops g)) Try.f6) = (∀ (g : GWr), True → ∃ (g_1 : List DP), SV.ro DP dDP encDP (GWr.l g) = SV.ro DP dDP encDP g_1 ∧ True ∧ True ∧ ∀ (b : Unit), True → ((!decide ((↑(List.length g_1) : Int) ≤ (100 :
  Int))) = true → ∃ (g : Unit), True ∧ True ∧ True ∧ ∀ (b : Unit), True → ∃ (b : Unit), True ∧ SV.val (Value.bool true) = SV.val (Value.bool true) ∧ (0 : Nat) = (0 : Nat) ∧ True) ∧
  ((!decide ((↑(List.length g_1) : Int) ≤ (100 : Int))) = false → ∃ (g_2 : GWr), (SV.ro DP dDP encDP (GWr.l g) = SV.ro DP dDP encDP (GWr.l g_2) ∧ SV.val (Value.int IntKind.i64
  (DR.file (GWr.r g))) = SV.val (Value.int IntKind.i64 (DR.file (GWr.r g_2))) ∧ SV.val (Value.int IntKind.i64 (DR.index (GWr.r g))) = SV.val (Value.int IntKind.i64 (DR.index (GWr.r
  g_2))) ∧ SV.val (Value.int IntKind.i64 (DR.count (GWr.r g))) = SV.val (Value.int IntKind.i64 (DR.count (GWr.r g_2))) ∧ True) ∧ True ∧ List.length (GWr.l g_2) ≤ (1000000000 : Nat) ∧
  ∀ (b : Unit), True → ∃ (g_3 : GWr), (SV.ro DP dDP encDP (GWr.l g) = SV.ro DP dDP encDP (GWr.l g_3) ∧ SV.val (Value.int IntKind.i64 (DR.file (GWr.r g))) = SV.val (Value.int
  IntKind.i64 (DR.file (GWr.r g_3))) ∧ SV.val (Value.int IntKind.i64 (DR.index (GWr.r g))) = SV.val (Value.int IntKind.i64 (DR.index (GWr.r g_3))) ∧ SV.val (Value.int IntKind.i64
  (DR.count (GWr.r g))) = SV.val (Value.int IntKind.i64 (DR.count (GWr.r g_3))) ∧ True) ∧ True ∧ List.length (GWr.l g_3) ≤ (1000000000 : Nat) ∧ ∀ (b : Unit), True → ∃ (g : List DP ×
  List DP), (((0 : Nat) + List.length (wrO g_2) ≤ List.length (wrO g_2) ∧ SV.ro DP dDP encDP (List.take (List.length (wrO g_2)) (List.drop (0 : Nat) (wrO g_2))) = SV.ro DP dDP encDP
  (Prod.fst g)) ∧ (0 : Nat) + List.length (wrO g_3) ≤ List.length (wrO g_3) ∧ SV.ro DP dDP encDP (List.take (List.length (wrO g_3)) (List.drop (0 : Nat) (wrO g_3))) = SV.ro DP dDP
  encDP (Prod.snd g)) ∧ True ∧ (List.length (Prod.fst g) ≤ (1000000000 : Nat) ∧ List.length (Prod.snd g) ≤ (1000000000 : Nat)) ∧ ∀ (b : Unit), True → (eqL (Prod.fst g) (Prod.snd g) =
  true → ((wrE g_2 == wrE g_3) = true → ∃ (g : Unit), True ∧ True ∧ True ∧ ∀ (b : Unit), True → ∃ (b : Unit), True ∧ SV.val (Value.bool true) = SV.val (Value.bool true) ∧ (0 : Nat) =
  (0 : Nat) ∧ True) ∧ ((wrE g_2 == wrE g_3) = false → ∃ (b : Unit), True ∧ true = false ∧ (0 : Nat) = (0 : Nat) ∧ True)) ∧ (eqL (Prod.fst g) (Prod.snd g) = false → ∃ (b : Unit), True
  ∧ true = false ∧ (0 : Nat) = (0 : Nat) ∧ True))) := by kernel_rfl
theorem eqL_refl : ∀ l : List DP, eqL l l = true
  | [] => rfl
  | p :: r => by rw [eqL, eqDP_iff.2 rfl, eqL_refl r]; rfl
theorem eqR_refl : ∀ l : List DR, eqR l l = true
  | [] => rfl
  | p :: r => by rw [eqR, eqR_refl r]; simp [eqDR]
theorem expO_len (g : GExp) : (expO g).length ≤ g.l.length := by
  unfold expO
  split
  · exact Nat.le_trans (List.length_filter_le _ _) (Nat.le_of_eq (ordR_perm g.l).length_eq)
  · exact Nat.zero_le _
theorem wrO_len (g : GWr) : (wrO g).length ≤ g.l.length := by
  unfold wrO
  split
  · exact List.length_filter_le _ _
  · exact Nat.zero_le _
theorem runsO_len (g : GRn) : (runsO g).length ≤ 64 := by
  unfold runsO
  split
  · exact runsTo_len _ _ 4
  · exact Nat.zero_le _
theorem few_len {l : List DP} (h : (!decide ((l.length : Int) ≤ 100)) = false) : l.length ≤ 100 := by
  have : (l.length : Int) ≤ 100 := by simpa using h
  omega
theorem vNexts : cNexts.body (fun g => env [(10, cFew), (11, cAwake), (12, cOrder), (13, cOrder), (14, cWCheck), (15, cCheck), (16, cNext), (17, cNext), (18, cEq)] (noLoops g)) Try.f3 := by
  rw [vNexts_eq]
  intro l _
  have aw : ∃ (g : Unit), True ∧ True ∧ True ∧ ∀ (b : Unit), True → ∃ (b : Unit), True ∧ SV.val (Value.bool true) = SV.val (Value.bool true) ∧ (0 : Nat) = (0 : Nat) ∧ True := ⟨(), trivial, trivial, trivial, fun _ _ => ⟨(), trivial, rfl, rfl, trivial⟩⟩
  refine ⟨l, rfl, trivial, trivial, fun _ _ => ⟨fun _ => aw, fun hf => ?_⟩⟩
  have hl := few_len hf
  have hol := ordO_length l
  have h9 : l.length ≤ 1000000000 := by omega
  exact ⟨l, rfl, trivial, h9, fun _ _ => ⟨l, rfl, trivial, h9, fun _ _ => ⟨l, rfl, trivial, h9, fun _ _ => ⟨l, rfl, trivial, h9, fun _ _ => ⟨fun _ => ⟨l, rfl, trivial, h9, fun _ _ => ⟨l, rfl, trivial, h9, fun _ _ => ⟨fun _ => ⟨(ordO l, ordO l), ⟨⟨le0 _, roT _⟩, le0 _, roT _⟩, trivial, ⟨by dsimp only; omega, by dsimp only; omega⟩, fun _ _ => ⟨fun _ => ⟨fun _ => aw, fun h => absurd h (by simp)⟩, fun h => absurd h (by rw [eqL_refl]; decide)⟩⟩, fun h => absurd h (by simp)⟩⟩⟩, fun h => absurd h (by simp)⟩⟩⟩⟩⟩
theorem vExpires : cExpires.body (fun g => env [(10, cFew), (11, cAwake), (19, cExp), (20, cExp), (18, cEq)] (noLoops g)) Try.f4 := by
  rw [vExpires_eq]
  rintro g ⟨hn, hs⟩
  have aw : ∃ (g : Unit), True ∧ True ∧ True ∧ ∀ (b : Unit), True → ∃ (b : Unit), True ∧ SV.val (Value.bool true) = SV.val (Value.bool true) ∧ (0 : Nat) = (0 : Nat) ∧ True := ⟨(), trivial, trivial, trivial, fun _ _ => ⟨(), trivial, rfl, rfl, trivial⟩⟩
  refine ⟨g.l, rfl, trivial, trivial, fun _ _ => ⟨fun _ => aw, fun hf => ?_⟩⟩
  have hl := few_len hf
  have hol := expO_len g
  have h9 : g.l.length ≤ 1000000000 := by omega
  exact ⟨g, ⟨rfl, rfl, rfl⟩, trivial, ⟨h9, hn, hs⟩, fun _ _ => ⟨g, ⟨rfl, rfl, rfl⟩, trivial, ⟨h9, hn, hs⟩, fun _ _ => ⟨(expO g, expO g), ⟨⟨le0 _, roT _⟩, le0 _, roT _⟩, trivial, ⟨by dsimp only; omega, by dsimp only; omega⟩, fun _ _ => ⟨fun _ => ⟨fun _ => aw, fun h => absurd h (by simp)⟩, fun h => absurd h (by rw [eqL_refl]; decide)⟩⟩⟩⟩
theorem vRunsL : cRunsL.body (fun g => env [(10, cFew), (11, cAwake), (21, cRuns), (22, cRuns), (23, cEqR)] (noLoops g)) Try.f5 := by
  rw [vRunsL_eq]
  intro g hm
  have aw : ∃ (g : Unit), True ∧ True ∧ True ∧ ∀ (b : Unit), True → ∃ (b : Unit), True ∧ SV.val (Value.bool true) = SV.val (Value.bool true) ∧ (0 : Nat) = (0 : Nat) ∧ True := ⟨(), trivial, trivial, trivial, fun _ _ => ⟨(), trivial, rfl, rfl, trivial⟩⟩
  refine ⟨g.l, rfl, trivial, trivial, fun _ _ => ⟨fun _ => aw, fun hf => ?_⟩⟩
  have hl := few_len hf
  have hol := runsO_len g
  have h9 : g.l.length ≤ 1000000000 := by omega
  exact ⟨g, ⟨rfl, rfl⟩, trivial, ⟨h9, hm⟩, fun _ _ => ⟨g, ⟨rfl, rfl⟩, trivial, ⟨h9, hm⟩, fun _ _ => ⟨(runsO g, runsO g), ⟨⟨le0 _, roTR _⟩, le0 _, roTR _⟩, trivial, ⟨by dsimp only; omega, by dsimp only; omega⟩, fun _ _ => ⟨fun _ => ⟨fun _ => aw, fun h => absurd h (by simp)⟩, fun h => absurd h (by rw [eqR_refl]; decide)⟩⟩⟩⟩
theorem vWrites : cWrites.body (fun g => env [(10, cFew), (11, cAwake), (24, cWr), (25, cWr), (18, cEq)] (noLoops g)) Try.f6 := by
  rw [vWrites_eq]
  intro g _
  have aw : ∃ (g : Unit), True ∧ True ∧ True ∧ ∀ (b : Unit), True → ∃ (b : Unit), True ∧ SV.val (Value.bool true) = SV.val (Value.bool true) ∧ (0 : Nat) = (0 : Nat) ∧ True := ⟨(), trivial, trivial, trivial, fun _ _ => ⟨(), trivial, rfl, rfl, trivial⟩⟩
  refine ⟨g.l, rfl, trivial, trivial, fun _ _ => ⟨fun _ => aw, fun hf => ?_⟩⟩
  have hl := few_len hf
  have hol := wrO_len g
  have h9 : g.l.length ≤ 1000000000 := by omega
  exact ⟨g, ⟨rfl, rfl, rfl, rfl, trivial⟩, trivial, h9, fun _ _ => ⟨g, ⟨rfl, rfl, rfl, rfl, trivial⟩, trivial, h9, fun _ _ => ⟨(wrO g, wrO g), ⟨⟨le0 _, roT _⟩, le0 _, roT _⟩, trivial, ⟨by dsimp only; omega, by dsimp only; omega⟩, fun _ _ => ⟨fun _ => ⟨fun _ => aw, fun h => absurd h (by simp)⟩, fun h => absurd h (by rw [eqL_refl]; decide)⟩⟩⟩⟩
theorem sNexts : SpecOk P 3 cNexts.spec := spec_of cNexts (tab_cons sFew (tab_cons sAwake (tab_cons sWOrder (tab_cons sOrder (tab_cons sWCheck (tab_cons sCheck (tab_cons sWNext (tab_cons sNext (tab_cons sEq (tab_nil P)))))))))) mixed (fn := Try.f3) (by kernel_rfl) (by kernel_rfl) (by kernel_rfl) (Nat.zero_le _) (noIns fun _ => rfl) vNexts
theorem sExpires : SpecOk P 4 cExpires.spec := spec_of cExpires (tab_cons sFew (tab_cons sAwake (tab_cons sWExp (tab_cons sExp (tab_cons sEq (tab_nil P)))))) mixed (fn := Try.f4) (by kernel_rfl) (by kernel_rfl) (by kernel_rfl) (Nat.zero_le _) (noIns fun _ => rfl) vExpires
theorem sRunsL : SpecOk P 5 cRunsL.spec := spec_of cRunsL (tab_cons sFew (tab_cons sAwake (tab_cons sWRuns (tab_cons sRuns (tab_cons sEqR (tab_nil P)))))) mixed (fn := Try.f5) (by kernel_rfl) (by kernel_rfl) (by kernel_rfl) (Nat.zero_le _) (noIns fun _ => rfl) vRunsL
theorem sWrites : SpecOk P 6 cWrites.spec := spec_of cWrites (tab_cons sFew (tab_cons sAwake (tab_cons sWWr (tab_cons sWr (tab_cons sEq (tab_nil P)))))) mixed (fn := Try.f6) (by kernel_rfl) (by kernel_rfl) (by kernel_rfl) (Nat.zero_le _) (noIns fun _ => rfl) vWrites
end Go.Wb
